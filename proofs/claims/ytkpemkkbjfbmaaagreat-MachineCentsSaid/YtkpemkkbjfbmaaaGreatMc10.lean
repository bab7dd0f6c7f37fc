/- Contracts of functions, part 10. -/
import Derived.Test.YtkpemkkbjfbmaaaGreatMc09
import Derived.Test.YtkpemkkbjfbmaaaGreatMc06
import Derived.Test.YtkpemkkbjfbmaaaGreatMc04
set_option linter.all false
namespace Go.Proofs.YtkpemkkbjfbmaaaGreat
open List
noncomputable section
open Go.RowKit
set_option maxRecDepth 100000
set_option maxHeartbeats 1000000
attribute [local irreducible] BI BQ AD AE AG Au Ab AO A8 Bi Ct BX BO At Fr
def ADC (ns ss ps:List Df) (x:Ex):List JQ->JQ
 | []=>Ut ns ss ps x
 | [r0]=>Jn r0 ns ss ps x
 | [r0,r1]=>L6 r0 r1 ns ss ps x
 | [r0,r1,r2]=>Kq r0 r1 r2 ns ss ps x
 | _=>(false,0,0,0,1)
mutual
def ER (ns ss ps:List Df):Ex->JQ
 | .mk op num den mu hu du nm cnt md kids=>ADC ns ss ps (.mk op num den mu hu du nm cnt md kids) (HJ ns ss ps kids)
def HJ (ns ss ps:List Df):List Ex->List JQ
 | []=>[]
 | e::es=>ER ns ss ps e::HJ ns ss ps es
end
theorem NY {op num den mu hu du:Int} {nm:List UInt8} {cnt md:Int} {a:List Ex} {h:Int} (hv:Ft (.mk op num den mu hu du nm cnt md a) h=true):(a.length:Int)=Cz op/\Gd a (h-1)=true:=by
 rw[Ft]at hv
 cases h1:cond (decide (h<1)) true (!((a.length:Int)==Cz op))with
 | true=>rw[h1]at hv;exact nomatch hv
 | false=>
  rw[h1]at hv;have h2:((a.length:Int)==Cz op)=true:=by
   cases h3:decide (h<1)with
   | true=>rw[h3]at h1;exact nomatch h1
   | false=>rw[h3]at h1;cases h4:((a.length:Int)==Cz op)with
    | true=>rfl
    | false=>rw[h4]at h1;exact nomatch h1
  refine⟨eq_of_beq h2,?_⟩
  cases h5:CS op num den mu hu du nm cnt md with
  | true=>rw[h5]at hv;exact hv
  | false=>rw[h5]at hv;exact nomatch hv
theorem NX {h:Int}:∀ {a:List Ex} {i:Nat} {e:Ex},Gd a h=true->a[i]?=some e->Ft e h=true
 | [],_,_,_,hi=>by simp at hi
 | x::es,i,e,hv,hi=>by
  rw[Gd]at hv
  cases h1:Ft x h with
  | false=>rw[h1]at hv;exact nomatch hv
  | true=>
   rw[h1]at hv
   cases i with
   | zero=>simp at hi;subst hi;exact h1
   | succ i=>exact NX (i:=i) hv (by simpa using hi)
theorem Yt {op:Int} (h:0<=Cz op):op=1\/op=2\/op=3\/op=20\/op=21\/op=4\/op=16\/op=17\/op=19\/op=5\/op=6\/op=7\/op=8\/op=9\/op=10\/op=11\/op=12\/op=13\/op=14\/op=15\/op=18:=by
 unfold Cz at h
 cases q1:(op==1)with
 | true=>exact .inl (eq_of_beq q1)
 | false=>
 rw[q1]at h
 cases q2:(op==2)with
 | true=>exact .inr (.inl (eq_of_beq q2))
 | false=>
 rw[q2]at h
 cases q3:(op==3)with
 | true=>exact .inr (.inr (.inl (eq_of_beq q3)))
 | false=>
 rw[q3]at h
 cases q20:(op==20)with
 | true=>exact .inr (.inr (.inr (.inl (eq_of_beq q20))))
 | false=>
 rw[q20]at h
 cases q21:(op==21)with
 | true=>exact .inr (.inr (.inr (.inr (.inl (eq_of_beq q21)))))
 | false=>
 rw[q21]at h
 cases q4:(op==4)with
 | true=>exact .inr (.inr (.inr (.inr (.inr (.inl (eq_of_beq q4))))))
 | false=>
 rw[q4]at h
 cases q16:(op==16)with
 | true=>exact .inr (.inr (.inr (.inr (.inr (.inr (.inl (eq_of_beq q16)))))))
 | false=>
 rw[q16]at h
 cases q17:(op==17)with
 | true=>exact .inr (.inr (.inr (.inr (.inr (.inr (.inr (.inl (eq_of_beq q17))))))))
 | false=>
 rw[q17]at h
 cases q19:(op==19)with
 | true=>exact .inr (.inr (.inr (.inr (.inr (.inr (.inr (.inr (.inl (eq_of_beq q19)))))))))
 | false=>
 rw[q19]at h
 cases q5:(op==5)with
 | true=>exact .inr (.inr (.inr (.inr (.inr (.inr (.inr (.inr (.inr (.inl (eq_of_beq q5))))))))))
 | false=>
 rw[q5]at h
 cases q6:(op==6)with
 | true=>exact .inr (.inr (.inr (.inr (.inr (.inr (.inr (.inr (.inr (.inr (.inl (eq_of_beq q6)))))))))))
 | false=>
 rw[q6]at h
 cases q7:(op==7)with
 | true=>exact .inr (.inr (.inr (.inr (.inr (.inr (.inr (.inr (.inr (.inr (.inr (.inl (eq_of_beq q7))))))))))))
 | false=>
 rw[q7]at h
 cases q8:(op==8)with
 | true=>exact .inr (.inr (.inr (.inr (.inr (.inr (.inr (.inr (.inr (.inr (.inr (.inr (.inl (eq_of_beq q8)))))))))))))
 | false=>
 rw[q8]at h
 cases q9:(op==9)with
 | true=>exact .inr (.inr (.inr (.inr (.inr (.inr (.inr (.inr (.inr (.inr (.inr (.inr (.inr (.inl (eq_of_beq q9))))))))))))))
 | false=>
 rw[q9]at h
 cases q10:(op==10)with
 | true=>exact .inr (.inr (.inr (.inr (.inr (.inr (.inr (.inr (.inr (.inr (.inr (.inr (.inr (.inr (.inl (eq_of_beq q10)))))))))))))))
 | false=>
 rw[q10]at h
 cases q11:(op==11)with
 | true=>exact .inr (.inr (.inr (.inr (.inr (.inr (.inr (.inr (.inr (.inr (.inr (.inr (.inr (.inr (.inr (.inl (eq_of_beq q11))))))))))))))))
 | false=>
 rw[q11]at h
 cases q12:(op==12)with
 | true=>exact .inr (.inr (.inr (.inr (.inr (.inr (.inr (.inr (.inr (.inr (.inr (.inr (.inr (.inr (.inr (.inr (.inl (eq_of_beq q12)))))))))))))))))
 | false=>
 rw[q12]at h
 cases q13:(op==13)with
 | true=>exact .inr (.inr (.inr (.inr (.inr (.inr (.inr (.inr (.inr (.inr (.inr (.inr (.inr (.inr (.inr (.inr (.inr (.inl (eq_of_beq q13))))))))))))))))))
 | false=>
 rw[q13]at h
 cases q14:(op==14)with
 | true=>exact .inr (.inr (.inr (.inr (.inr (.inr (.inr (.inr (.inr (.inr (.inr (.inr (.inr (.inr (.inr (.inr (.inr (.inr (.inl (eq_of_beq q14)))))))))))))))))))
 | false=>
 rw[q14]at h
 cases q15:(op==15)with
 | true=>exact .inr (.inr (.inr (.inr (.inr (.inr (.inr (.inr (.inr (.inr (.inr (.inr (.inr (.inr (.inr (.inr (.inr (.inr (.inr (.inl (eq_of_beq q15))))))))))))))))))))
 | false=>
 rw[q15]at h
 cases q18:(op==18)with
 | true=>exact .inr (.inr (.inr (.inr (.inr (.inr (.inr (.inr (.inr (.inr (.inr (.inr (.inr (.inr (.inr (.inr (.inr (.inr (.inr (.inr ((eq_of_beq q18)))))))))))))))))))))
 | false=>
 rw[q18]at h;exact absurd h (by decide)
def QD (ns ss ps:List Df) (p0aA p0bA p0cA:Option Addr) (p0ac p0bc p0cc n:Nat):Prop:=∀(e:Ex) (h:Int) (A:Option Addr) (c:Nat) (w:World),e.height<=n->Ft e h=true->rowsDf w p0aA ns->rowsDf w p0bA ss->rowsDf w p0cA ps->rowsEx w A e.ks->Calls Tryz.prog 117 ([D [V p0aA ns.length p0ac,V p0bA ss.length p0bc,V p0cA ps.length p0cc],D (Ad e A c)]:List Value).toArray w λen w'=>en=.returned (KM (ER ns ss ps e))/\Below (U w) w w'
theorem iT {ns ss v:List Df} {j f b:Option Addr} {g d a:Nat} (o:ns.length<=4294967296) (l:ss.length<=4294967296) (m:v.length<=4294967296) (n:Nat) (IH:QD ns ss v j f b g d a n):QD ns ss v j f b g d a (n+1):=by
 rintro⟨op,num,den,mu,hu,du,nm,cnt,md,q⟩ h A c w hh hv t r s p;obtain⟨hk,hv⟩:=NY hv;have x:Ex.heights q<=n:=by unfold Ex.height at hh;omega
 have y:∀(i:Nat) (k:Ex),q[i]?=some k->∀u,Below (U w) w u->∀(A':Option Addr) (c':Nat),rowsEx u A' k.ks->Calls Tryz.prog 117 ([D [V j ns.length g,V f ss.length d,V b v.length a],D (Ad k A' c')]:List Value).toArray u λen w'=>en=.returned (KM (ER ns ss v k))/\Below (U u) u w':=λi k hi u B A' c' hx=>
  IH k (h-1) A' c' u (by have:=Jl hi;omega) (NX hv hi) (t.below B) (r.below B) (s.below B) hx
 rw[ER];have z:q.length<=3:=by rcases Yt (op:=op) (by omega)with rfl | rfl | rfl | rfl | rfl | rfl | rfl | rfl | rfl | rfl | rfl | rfl | rfl | rfl | rfl | rfl | rfl | rfl | rfl | rfl | rfl<;>(have e:(q.length:Int)<=3:=by rw[hk];decide)<;>omega
 match q,hk,hv,x,y,z,p with
 | [],hk,hv,x,y,z,p=>rw[HJ];exact Us j ns g f ss d b v a (.mk op num den mu hu du nm cnt md []) A c w t o r l s m p rfl
 | [k0],hk,hv,x,y,z,p=>rw[HJ,HJ];exact Ur (ER ns ss v k0) j ns g f ss d b v a (.mk op num den mu hu du nm cnt md [k0]) A k0 c w t o r l s m p rfl (y 0 _ rfl)
 | [k0,k1],hk,hv,x,y,z,p=>rw[HJ,HJ,HJ];exact Uq (ER ns ss v k0) (ER ns ss v k1) j ns g f ss d b v a (.mk op num den mu hu du nm cnt md [k0,k1]) A k0 k1 c w t o r l s m p rfl (y 0 _ rfl) (y 1 _ rfl)
 | [k0,k1,k2],hk,hv,x,y,z,p=>rw[HJ,HJ,HJ,HJ];exact Up (ER ns ss v k0) (ER ns ss v k1) (ER ns ss v k2) j ns g f ss d b v a (.mk op num den mu hu du nm cnt md [k0,k1,k2]) A k0 k1 k2 c w t o r l s m p rfl (y 0 _ rfl) (y 1 _ rfl) (y 2 _ rfl)
 | _::_::_::_::_,_,_,_,_,z,_=>simp at z
theorem QI {ns ss m:List Df} {l j g:Option Addr} {k i f:Nat} (d:ns.length<=4294967296) (a:ss.length<=4294967296) (b:m.length<=4294967296):∀n,QD ns ss m l j g k i f n
 | 0=>λe h A c w o=>absurd o (by cases e;unfold Ex.height;omega)
 | n+1=>iT d a b n (QI d a b n)
def Bv (x:Ex) (ns:List (Df)) (ss:List (Df)) (ps:List (Df)):Bool×Int×Int×Int×Int:=cond (!(Dc x)) ((false,0,0,0,1)) (ER ns ss ps x)
def bJ (r:Bool×Int×Int×Int×Int):Value:=.tuple #[D [I (r.1),J (r.2.1),J (r.2.2.1),J (r.2.2.2.1)],J (r.2.2.2.2)]
noncomputable def m5:Code:=Tryz.f86.body.getD .skip
def yN:=ν ([.code m5])
def om:=Ψ yN
def AGe:=Θ om
def yM:=Ξ om
def AGd:=Ψ yM
theorem Uo (x:Ex) (a:Option Addr) (b:Nat) (h:Option Addr) (ns:List (Df)) (p:Nat) (g:Option Addr) (ss:List (Df)) (o:Nat) (f:Option Addr) (l:List (Df)) (m:Nat) (w:World) (d:rowsEx w a x.ks) (s:rowsDf w h ns) (k:ns.length<=4294967296) (q:rowsDf w g ss) (i:ss.length<=4294967296) (r:rowsDf w f l) (j:l.length<=4294967296) (ht:EB x):Calls Tryz.prog 86 ([D ((ω x a b)),V h ns.length p,V g ss.length o,V f l.length m]:List Value).toArray w λe w'=>e=.returned (bJ (Bv x ns ss l))/\Below (U w) w w':=by
 refine AS (fn:=Tryz.f86) (c:=m5) (n:=22) ?_;have K1:=Wk.start w;refine Ar yN K1 [(0,0)] λw1 y=>?_;refine AW y (J0 x x.op x.num x.den x.mu x.hu x.du x.nm x.cnt x.md a x.ks.length b w1 ht (AGT (d.below y.B))) λw2 K3=>?_;refine AC om K3 [] λw3 v=>?_;refine AH (!(Dc x)) (λu=>?_) (λu=>?_)
 ·refine AC AGe v [(1,0)] λw5 K5=>?_;exact AQ K5 (1,0) _ (by unfold Bv;rw[u]<;>rfl)
 refine AC yM v [(0,0)] λz t=>?_;refine AW t (args:=[D [V h ns.length p,V g ss.length o,V f l.length m],D ((ω x a b))]) (QI k i j _ x 32 _ _ z (Nat.le_refl _) (by simpa[Dc]using ‹(!(Dc x))=false›) (s.below t.B) (q.below t.B) (r.below t.B) (d.below t.B)) λw7 K7=>?_;refine Ar AGd K7 [(1,0)] λw8 K8=>?_;exact AQ K8 (1,0) _ (by unfold Bv;rw[u]<;>rfl)
def Ah (p0:Int):Int×Int×Int×Int×Int×Int:=(1,0,p0,1,0,0)
def mI (r:Int×Int×Int×Int×Int×Int):Value:=D [J (r.1),J (r.2.1),J (r.2.2.1),J (r.2.2.2.1),J (r.2.2.2.2.1),J (r.2.2.2.2.2)]
noncomputable def oF:Code:=Tryz.f95.body.getD .skip
def AH3:=ν ([.code oF])
theorem Ph (a:Int) (w:World):Calls Tryz.prog 95 ([J a]:List Value).toArray w λe w'=>e=.returned (mI (Ah a))/\Below (U w) w w':=by refine AS (fn:=Tryz.f95) (c:=oF) (n:=6) ?_;have d:=Wk.start w;refine Ar AH3 d [(0,0)] λf b=>?_;exact AQ b (0,0) _ (by unfold Ah;rfl)
def Fd (p0:Int):Int:=cond (p0==5) (5) (cond (p0==6) (6) (cond (p0==7) (7) (cond (p0==8) (8) (cond (p0==9) (9) (cond (p0==10) (10) (cond (p0==11) (11) (cond (p0==14) (12) (cond (p0==15) (13) (cond (p0==16) (14) (cond (p0==17) (15) (0)))))))))))
noncomputable def oI:Code:=Tryz.f96.body.getD .skip
def qE:=ν ([.code oI])
def AIA:=Θ qE
def qD:=Ξ qE
def AH9:=Θ qD
def qC:=Ξ qD
def AH8:=Θ qC
def qB:=Ξ qC
def AH7:=Θ qB
def qA:=Ξ qB
def AH6:=Θ qA
def fa:=Ξ qA
def AFx:=Θ fa
def fZ:=Ξ fa
def AFw:=Θ fZ
def fY:=Ξ fZ
def AFv:=Θ fY
def fX:=Ξ fY
def AFu:=Θ fX
def fW:=Ξ fX
def AFt:=Θ fW
def fV:=Ξ fW
def AFs:=Θ fV
def AFr:=Ξ fV
theorem mJ (g:Int) (w:World):Calls Tryz.prog 96 ([J g]:List Value).toArray w λe w'=>e=.returned (J (Fd g))/\Below (U w) w w':=by
 refine AS (fn:=Tryz.f96) (c:=oI) (n:=26) ?_;have K1:=Wk.start w;refine AC qE K1 [] λw1 K2=>?_;refine AH (g==5) (λi=>?_) (λi=>?_)
 ·refine AC AIA K2 [] λw3 K3=>?_;exact AQ K3 (0,0) _ (by unfold Fd;rw[i]<;>rfl)
 refine AC qD K2 [] λw4 K4=>?_;refine AH (g==6) (λj=>?_) (λj=>?_)
 ·refine AC AH9 K4 [] λw6 K5=>?_;exact AQ K5 (0,0) _ (by unfold Fd;rw[i,j]<;>rfl)
 refine AC qC K4 [] λw7 K6=>?_;refine AH (g==7) (λk=>?_) (λk=>?_)
 ·refine AC AH8 K6 [] λw9 K7=>?_;exact AQ K7 (0,0) _ (by unfold Fd;rw[i,j,k]<;>rfl)
 refine AC qB K6 [] λc1 K8=>?_;refine AH (g==8) (λa=>?_) (λa=>?_)
 ·refine AC AH7 K8 [] λb1 K9=>?_;exact AQ K9 (0,0) _ (by unfold Fd;rw[i,j,k,a]<;>rfl)
 refine AC qA K8 [] λa1 v=>?_;refine AH (g==9) (λb=>?_) (λb=>?_)
 ·refine AC AH6 v [] λz0 e0=>?_;exact AQ e0 (0,0) _ (by unfold Fd;rw[i,j,k,a,b]<;>rfl)
 refine AC fa v [] λx0 u=>?_;refine AH (g==10) (λd=>?_) (λd=>?_)
 ·refine AC AFx u [] λw0 d0=>?_;exact AQ d0 (0,0) _ (by unfold Fd;rw[i,j,k,a,b,d]<;>rfl)
 refine AC fZ u [] λv0 t=>?_;refine AH (g==11) (λf=>?_) (λf=>?_)
 ·refine AC AFw t [] λt0 c0=>?_;exact AQ c0 (0,0) _ (by unfold Fd;rw[i,j,k,a,b,d,f]<;>rfl)
 refine AC fY t [] λr0 s=>?_;refine AH (g==14) (λh=>?_) (λh=>?_)
 ·refine AC AFv s [] λq0 b0=>?_;exact AQ b0 (0,0) _ (by unfold Fd;rw[i,j,k,a,b,d,f,h]<;>rfl)
 refine AC fX s [] λm0 r=>?_;refine AH (g==15) (λl=>?_) (λl=>?_)
 ·refine AC AFu r [] λl0 a0=>?_;exact AQ a0 (0,0) _ (by unfold Fd;rw[i,j,k,a,b,d,f,h,l]<;>rfl)
 refine AC fW r [] λk0 q=>?_;refine AH (g==16) (λm=>?_) (λm=>?_)
 ·refine AC AFt q [] λj0 z=>?_;exact AQ z (0,0) _ (by unfold Fd;rw[i,j,k,a,b,d,f,h,l,m]<;>rfl)
 refine AC fV q [] λi0 p=>?_;refine AH (g==17) (λo=>?_) (λo=>?_)
 ·refine AC AFs p [] λh0 y=>?_;exact AQ y (0,0) _ (by unfold Fd;rw[i,j,k,a,b,d,f,h,l,m,o]<;>rfl)
 refine AC AFr p [] λg0 x=>?_;exact AQ x (0,0) _ (by unfold Fd;rw[i,j,k,a,b,d,f,h,l,m,o]<;>rfl)
def Af (p0:Int):Int×Int:=cond (p0==1) ((0,1)) (cond (p0==2) ((0,1)) (cond (p0==3) ((0,1)) (cond (p0==19) ((0,1)) (cond (p0==20) ((0,1)) (cond (p0==4) ((1,1)) (cond (p0==14) ((1,1)) (cond (p0==15) ((1,1)) (cond (p0==18) ((1,1)) (cond (p0==17) ((1,0)) (cond (p0==16) ((0,0)) ((2,1))))))))))))
def qr (r:Int×Int):Value:=.tuple #[J (r.1),J (r.2)]
noncomputable def oK:Code:=Tryz.f100.body.getD .skip
def qK:=ν ([.code oK])
def ACS:=Θ qK
def AIF:=Θ ACS
def qJ:=Ξ qK
def ACR:=Θ qJ
def AIE:=Θ ACR
def qI:=Ξ qJ
def ACQ:=Θ qI
def AID:=Θ ACQ
def qH:=Ξ qI
def wI:=Θ qH
def AGC:=Θ wI
def fw:=Ξ qH
def AGB:=Θ fw
def fu:=Ξ fw
def wH:=Θ fu
def AGA:=Θ wH
def ft:=Ξ fu
def wG:=Θ ft
def AF9:=Θ wG
def fq:=Ξ ft
def wF:=Θ fq
def AF8:=Θ wF
def fm:=Ξ fq
def AF7:=Θ fm
def fl:=Ξ fm
def AF6:=Θ fl
def fj:=Ξ fl
def AF5:=Θ fj
def AF4:=Ξ fj
theorem gt (d:Int) (w:World):Calls Tryz.prog 100 ([J d]:List Value).toArray w λe w'=>e=.returned (qr (Af d))/\Below (U w) w w':=by
 refine AS (fn:=Tryz.f100) (c:=oK) (n:=20) ?_;have K1:=Wk.start w;refine AC qK K1 [] λw1 K2=>?_;refine AH (d==1) (λk=>?_) (λk=>?_)
 ·refine AC ACS K2 [] λw3 K3=>?_;refine AH (d==1) (λ_=>?_) (λh=>nomatch h.symm.trans k);refine AC AIF K3 [] λw5 K4=>?_;exact AQ K4 (0,0) _ (by unfold Af;rw[k]<;>rfl)
 refine AC qJ K2 [] λw6 K5=>?_;refine AH (d==2) (λl=>?_) (λl=>?_)
 ·refine AC ACR K5 [] λw8 K6=>?_;refine AH (d==2) (λ_=>?_) (λh=>nomatch h.symm.trans l);refine AC AIE K6 [] λt1 K7=>?_;exact AQ K7 (0,0) _ (by unfold Af;rw[k,l]<;>rfl)
 refine AC qI K5 [] λs1 K8=>?_;refine AH (d==3) (λa=>?_) (λa=>?_)
 ·refine AC ACQ K8 [] λr1 K9=>?_;refine AH (d==3) (λ_=>?_) (λh=>nomatch h.symm.trans a);refine AC AID K9 [] λq1 q0=>?_;exact AQ q0 (0,0) _ (by unfold Af;rw[k,l,a]<;>rfl)
 refine AC qH K8 [] λp1 y=>?_;refine AH (d==19) (λb=>?_) (λb=>?_)
 ·refine AC wI y [] λo1 m0=>?_;refine AH (d==19) (λ_=>?_) (λh=>nomatch h.symm.trans b);refine AC AGC m0 [] λn1 l0=>?_;exact AQ l0 (0,0) _ (by unfold Af;rw[k,l,a,b]<;>rfl)
 refine AC fw y [] λm1 x=>?_;refine AH (d==20) (λg=>?_) (λg=>?_)
 ·refine AC AGB x [] λl1 k0=>?_;exact AQ k0 (0,0) _ (by unfold Af;rw[k,l,a,b,g]<;>rfl)
 refine AC fu x [] λk1 v=>?_;refine AH (d==4) (λf=>?_) (λf=>?_)
 ·refine AC wH v [] λi1 j0=>?_;refine AH (d==4) (λ_=>?_) (λh=>nomatch h.symm.trans f);refine AC AGA j0 [] λh1 i0=>?_;exact AQ i0 (0,0) _ (by unfold Af;rw[k,l,a,b,g,f]<;>rfl)
 refine AC ft v [] λg1 u=>?_;refine AH (d==14) (λi=>?_) (λi=>?_)
 ·refine AC wG u [] λf1 h0=>?_;refine AH (d==14) (λ_=>?_) (λh=>nomatch h.symm.trans i);refine AC AF9 h0 [] λe1 g0=>?_;exact AQ g0 (0,0) _ (by unfold Af;rw[k,l,a,b,g,f,i]<;>rfl)
 refine AC fq u [] λd1 t=>?_;refine AH (d==15) (λj=>?_) (λj=>?_)
 ·refine AC wF t [] λc1 e0=>?_;refine AH (d==15) (λ_=>?_) (λh=>nomatch h.symm.trans j);refine AC AF8 e0 [] λb1 d0=>?_;exact AQ d0 (0,0) _ (by unfold Af;rw[k,l,a,b,g,f,i,j]<;>rfl)
 refine AC fm t [] λa1 s=>?_;refine AH (d==18) (λm=>?_) (λm=>?_)
 ·refine AC AF7 s [] λz0 c0=>?_;exact AQ c0 (0,0) _ (by unfold Af;rw[k,l,a,b,g,f,i,j,m]<;>rfl)
 refine AC fl s [] λx0 r=>?_;refine AH (d==17) (λo=>?_) (λo=>?_)
 ·refine AC AF6 r [] λw0 b0=>?_;exact AQ b0 (0,0) _ (by unfold Af;rw[k,l,a,b,g,f,i,j,m,o]<;>rfl)
 refine AC fj r [] λv0 q=>?_;refine AH (d==16) (λp=>?_) (λp=>?_)
 ·refine AC AF5 q [] λt0 a0=>?_;exact AQ a0 (0,0) _ (by unfold Af;rw[k,l,a,b,g,f,i,j,m,o,p]<;>rfl)
 refine AC AF4 q [] λr0 z=>?_;exact AQ z (0,0) _ (by unfold Af;rw[k,l,a,b,g,f,i,j,m,o,p]<;>rfl)
def Gc (p0:Int):Bool:=cond (decide (0<=p0)) (decide (p0<=6)) (false)
noncomputable def oH:Code:=Tryz.f97.body.getD .skip
def ACH:=Ac 1 ([.code oH])
def AH5:=Ω ACH
theorem PQ (b:Int) (w:World):Calls Tryz.prog 97 ([J b]:List Value).toArray w λe w'=>e=.returned (I (Gc b))/\Below (U w) w w':=by refine AS (fn:=Tryz.f97) (c:=oH) (n:=9) ?_;have h:=Wk.start w;refine Al 1 ACH h [] λk d=>?_;refine Ap d [] [] d.G (λl a=>by cases a) λj m g=>?_;refine AC AH5 g [] λi f=>?_;exact AQ f (0,0) _ (by unfold Gc;rfl)
def EU (p0a:Int) (p0b:Int):Bool:=cond (AV p0a p0b) (decide (0<p0a)) (false)
noncomputable def oB:Code:=Tryz.f98.body.getD .skip
def AB5:=Ac 1 ([.code oB])
def AHw:=Ω AB5
theorem MH (b a:Int) (w:World):Calls Tryz.prog 98 ([D [J b,J a]]:List Value).toArray w λe w'=>e=.returned (I (EU b a))/\Below (U w) w w':=by
 refine AS (fn:=Tryz.f98) (c:=oB) (n:=10) ?_;have i:=Wk.start w;refine Bg 1 AB5 [N (U w) [J b,J a] 47] i [] λl f=>?_;refine Ap f [(0,0,0),(4,0,0)] [⟨1,[(3,D [J b,J a])],I (AV b a),true⟩] f.G (λm d=>?_) λk o h=>?_
 ·rw[mem_singleton.1 d];exact AU 36 [.tmp 3] _ (λ_=>by kernel_rfl) λhc u hu=>AR hu (Bw b a u)
 refine AC AHw h [] λj g=>?_;exact AQ g (0,0) _ (by unfold EU;rfl)
def Dq (p0:Int) (p1:Int):Bool:=cond (decide (0<=p0)) (decide (p0<p1)) (false)
noncomputable def n8:Code:=Tryz.f99.body.getD .skip
def ABq:=Ac 1 ([.code n8])
def AHv:=Ω ABq
theorem IW (b p1:Int) (w:World):Calls Tryz.prog 99 ([J b,J p1]:List Value).toArray w λe w'=>e=.returned (I (Dq b p1))/\Below (U w) w w':=by refine AS (fn:=Tryz.f99) (c:=n8) (n:=12) ?_;have h:=Wk.start w;refine Al 1 ABq h [] λk d=>?_;refine Ap d [] [] d.G (λl a=>by cases a) λj m g=>?_;refine AC AHv g [] λi f=>?_;exact AQ f (0,0) _ (by unfold Dq;rfl)
def Dw (p0b:Bool) (p0c:Int) (p0da:Int) (p0db:Int):Bool:=cond (!(p0b)) (cond (p0c==0) ((p0da==0)&&(p0db==0)) (false)) (cond (cond (Gc p0c) (EU p0da p0db) (false)) (Int.tmod 100 p0db==0) (false))
noncomputable def oD:Code:=Tryz.f61.body.getD .skip
def p7:=ν ([.code oD])
def ACB:=Ac 2 (AE p7)
def AH1:=Ω ACB
def ACA:=Ac 3 (AG p7)
def AH0:=Ω ACA
theorem Oq (o:List UInt8) (h:Bool) (g f d:Int) (m:Option Addr) (j l:Nat) (w:World):Calls Tryz.prog 61 ([D [Y o,I h,J g,J f,J d,V m j l]]:List Value).toArray w λe w'=>e=.returned (I (Dw h g f d))/\Below (U w) w w':=by
 refine AS (fn:=Tryz.f61) (c:=oD) (n:=30) ?_;have K1:=Wk.start w;refine An p7 [N (U w) [Y o,I h,J g,J f,J d,V m j l] 50] K1 [(0,1)] λw1 s=>?_;refine AH (!(h)) (λp=>?_) (λp=>?_)
 ·refine Al 2 ACB s [] λw3 r=>?_;refine Ap r [(1,0,2),(5,0,3)] [⟨7,[(11,D [J f,J d]),(12,D [J 0,J 0])],I ((f==0)&&(d==0)),((g==0))&&(true)⟩] r.G (λt i=>?_) λw4 E4 K4=>?_
  ·rw[mem_singleton.1 i];exact BR λ_ E u _=>DS (k:=.eql) (T:=47) (a:=D [J f,J d]) (b:=D [J 0,J 0]) (GF u f d 0 0)
  refine AC AH1 K4 [] λw5 K5=>?_;exact AQ K5 (0,0) _ (by unfold Dw;rw[p]<;>rfl)
 refine Al 3 ACA s [] λw6 q=>?_;refine Ap q [(1,0,2),(5,0,3),(11,0,4)] [⟨2,[(16,J g)],I (Gc g),true⟩,⟨6,[(20,D [J f,J d])],I (EU f d),((Gc g))&&(true)⟩,⟨12,[(26,J d)],J (Int.tmod 100 d),((cond (Gc g) (EU f d) (false)))&&(true)⟩] q.G (λt i=>?_) λw7 E7 z=>?_
 ·simp only[mem_cons,not_mem_nil,or_false]at i;rcases i with rfl | rfl | rfl
  ·exact AU 97 [.tmp 16] _ (λ_=>by kernel_rfl) λhc u hu=>AR hu (PQ g u)
  ·exact AU 98 [.tmp 20] _ (λ_=>by kernel_rfl) λhc u hu=>AR hu (MH f d u)
  exact BR λhc E u _=>LS (T:=3) (T':=3) (x:=.const (J 100)) (y:=.tmp 26) (by kernel_rfl) (by kernel_rfl) (by kernel_rfl) (by simp[EU,AV]at hc;omega)
 refine AC AH0 z [] λw8 v=>?_;exact AQ v (0,0) _ (by unfold Dw;rw[p]<;>rfl)
def Co (p0a:Int) (p0ca:Int) (p0cb:Int) (p0d:Int) (p0e:Int):Bool:=cond (p0a==1) (cond (cond (AV p0ca p0cb) (p0d==0) (false)) (p0e==0) (false)) (cond (p0a==18) (cond (cond (EU p0ca p0cb) (p0d==0) (false)) (Gc p0e) (false)) (cond (p0a==19) (cond (cond ((p0ca==0)&&(p0cb==0)) (cond (decide (1<=p0d)) (decide (p0d<=120)) (false)) (false)) (p0e==0) (false)) (cond (p0a==20) (cond (cond ((p0ca==0)&&(p0cb==0)) (cond (decide (1<=p0d)) (decide (p0d<=120)) (false)) (false)) (p0e==0) (false)) (cond (cond ((p0ca==0)&&(p0cb==0)) (p0d==0) (false)) (p0e==0) (false)))))
noncomputable def oJ:Code:=Tryz.f62.body.getD .skip
def ACP:=Ac 1 ([.code oJ])
def ACO:=Ac 2 (AO ACP)
def qG:=Ω ACO
def ACN:=Θ qG
def ACM:=Ac 11 (AD ACN)
def AIC:=Ω ACM
def qF:=Ξ qG
def ACL:=Ac 7 (AE qF)
def ACK:=Ac 11 (AO ACL)
def AIB:=Ω ACK
def fh:=Ξ qF
def wE:=Θ fh
def wD:=Ac 10 (AE wE)
def wC:=Ac 11 (AO wD)
def AF3:=Ω wC
def fg:=Ξ fh
def wB:=Ac 10 (AE fg)
def wA:=Ac 11 (AO wB)
def AF2:=Ω wA
def vz:=Ac 11 (AG fg)
def AF1:=Ω vz
theorem P8 (i s g f p j:Int) (w:World):Calls Tryz.prog 62 ([D [J i,J s,J g,J f,J p,J j]]:List Value).toArray w λe w'=>e=.returned (I (Co i g f p j))/\Below (U w) w w':=by
 refine AS (fn:=Tryz.f62) (c:=oJ) (n:=49) ?_;have K1:=Wk.start w;refine Bg 1 ACP [N (U w) [J i,J s,J g,J f,J p,J j] 130] K1 [] λw1 K2=>?_;refine Ap K2 [(1,0,2)] [⟨3,[(7,D [J g,J f]),(8,D [J 0,J 0])],I ((g==0)&&(f==0)),true⟩] K2.G (λo d=>?_) λw2 E2 K3=>?_
 ·rw[mem_singleton.1 d];exact BR λ_ E u _=>DS (k:=.eql) (T:=47) (a:=D [J g,J f]) (b:=D [J 0,J 0]) (GF u g f 0 0)
 refine Al 2 ACO K3 [] λw3 K4=>?_;refine Ap K4 [(1,0,4),(4,0,5)] [] K4.G (λo d=>by cases d) λw4 E4 K5=>?_;refine AC qG K5 [(0,0)] λw5 K6=>?_;refine AH (i==1) (λr=>?_) (λr=>?_)
 ·refine AC ACN K6 [(0,2)] λw7 K7=>?_;refine AW K7 (Bw g f w7) λw8 K8=>?_;refine Al 11 ACM K8 [] λw9 K9=>?_;refine Ap K9 [] [] K9.G (λo d=>by cases d) λz1 h2 x0=>?_;refine AC AIC x0 [] λy1 w0=>?_;exact AQ w0 (0,0) _ (by unfold Co;rw[r]<;>rfl)
 refine AC qF K6 [] λx1 e0=>?_;refine AH (i==18) (λm=>?_) (λm=>?_)
 ·refine Al 7 ACL e0 [] λv1 d0=>?_;refine Ap d0 [(1,0,2),(4,0,5)] [⟨2,[(26,D [J g,J f])],I (EU g f),true⟩,⟨5,[(29,J j)],I (Gc j),true⟩] d0.G (λo d=>?_) λt1 g2 v0=>?_
  ·simp only[mem_cons,not_mem_nil,or_false]at d;rcases d with rfl | rfl
   ·exact AU 98 [.tmp 26] _ (λ_=>by kernel_rfl) λhc u hu=>AR hu (MH g f u)
   exact AU 97 [.tmp 29] _ (λ_=>by kernel_rfl) λhc u hu=>AR hu (PQ j u)
  refine Al 11 ACK v0 [] λs1 c0=>?_;refine Ap c0 [] [] c0.G (λo d=>by cases d) λr1 f2 t0=>?_;refine AC AIB t0 [] λq1 r0=>?_;exact AQ r0 (0,0) _ (by unfold Co;rw[r,m]<;>rfl)
 refine AC fh e0 [] λp1 b0=>?_;refine AH (i==19) (λl=>?_) (λl=>?_)
 ·refine AC wE b0 [] λo1 q0=>?_;refine AH (i==19) (λ_=>?_) (λh=>nomatch h.symm.trans l);refine Al 10 wD q0 [] λn1 a0=>?_;refine Ap a0 [(1,0,4),(5,0,4)] [] a0.G (λo d=>by cases d) λm1 e2 p0=>?_;refine Al 11 wC p0 [] λl1 z=>?_;refine Ap z [] [] z.G (λo d=>by cases d) λk1 d2 m0=>?_;refine AC AF3 m0 [] λi1 l0=>?_;exact AQ l0 (0,0) _ (by unfold Co;rw[r,m,l]<;>rfl)
 refine AC fg b0 [] λh1 y=>?_;refine AH (i==20) (λq=>?_) (λq=>?_)
 ·refine Al 10 wB y [] λg1 x=>?_;refine Ap x [(1,0,4),(5,0,4)] [] x.G (λo d=>by cases d) λf1 c2 k0=>?_;refine Al 11 wA k0 [] λe1 v=>?_;refine Ap v [] [] v.G (λo d=>by cases d) λd1 b2 j0=>?_;refine AC AF2 j0 [] λc1 i0=>?_;exact AQ i0 (0,0) _ (by unfold Co;rw[r,m,l,q]<;>rfl)
 refine Al 11 vz y [] λb1 t=>?_;refine Ap t [] [] t.G (λo d=>by cases d) λa1 a2 h0=>?_;refine AC AF1 h0 [] λz0 g0=>?_;exact AQ g0 (0,0) _ (by unfold Co;rw[r,m,l,q]<;>rfl)
def EJ:List (Int×Int×Int)->Bool->Int->Bool
 | [],a0_0,a0_1=>true
 | e0::tl,a0_0,a0_1=>cond (cond (cond (decide (e0.1<=a0_1)) (true) (decide (1000000<e0.1))) (true) (!(AV e0.2.1 e0.2.2))) (false) (EJ tl a0_0 e0.1)
theorem NZ {b:Bool} {a:Int}:EJ [] b a=(true):=by rw[EJ]
theorem NV {b:Bool} {a:Int} {es:List (Int×Int×Int)} (i:Nat) (c:Int×Int×Int) (hi:es[i]?=some c):EJ (es.drop i) b a=(cond (cond (cond (decide (c.1<=a)) (true) (decide (1000000<c.1))) (true) (!(AV c.2.1 c.2.2))) (false) (EJ (es.drop (i+1)) b c.1)):=by have hl:i<es.length:=(List.getElem?_eq_some_iff.1 hi).1;have he:es[i]=c:=(List.getElem?_eq_some_iff.1 hi).2;rw[<-getElem_cons_drop hl,EJ]<;>(try rw[he])
def Eg (es:List (Int×Int×Int)):Bool:=cond (cond (decide ((es.length:Int)<1)) (true) (decide (64<(es.length:Int)))) (false) (EJ es false (-1))
noncomputable def oC:Code:=Tryz.f60.body.getD .skip
def AB9:=Ac 1 ([.code oC])
def p6:=Ω AB9
def AHz:=Θ p6
def p5:=Ξ p6
def fQ:=ν (Au p5)
def AB8:=AB (Aq Aa 90 (AE fQ)) (AE fQ)
def AB7:=Ac 7 (AD (AD AB8))
def AB6:=Ω AB7
def AHy:=Θ AB6
def AHx:=Ξ fQ
theorem SB (m:Option Addr) (es:List (Int×Int×Int)) (i:Nat) (w:World) (z:Dl w m es) (k0:es.length<=4294967296):Calls Tryz.prog 60 ([V m es.length i]:List Value).toArray w λe w'=>e=.returned (I (Eg es))/\Below (U w) w w':=by
 refine AS (fn:=Tryz.f60) (c:=oC) (n:=38) ?_;have K1:=Wk.start w;refine Al 1 AB9 K1 [] λw1 K2=>?_;refine Ap K2 [] [] K2.G (λsp o=>by cases o) λw2 E2 K3=>?_;refine AC p6 K3 [] λw3 K4=>?_;refine AH (cond (decide ((es.length:Int)<1)) (true) (decide (64<(es.length:Int)))) (λc4=>?_) (λc4=>?_)
 ·refine AC AHz K4 [] λw5 K5=>?_;exact AQ K5 (0,0) _ (by unfold Eg;rw[c4]<;>rfl)
 refine AC p5 K4 [] λw6 K6=>?_;have K7:Wk w w6 [] [] []:=K6.pk [] [];have d:(Eg es)=EJ es false (-1):=by unfold Eg;rw[c4]<;>rfl
 refine AX [(2,I false),(3,J (-1)),(14,V m es.length i),(15,J ((es.length:Int))),(16,J (((0:Nat):Int)))] λE7=>?_;refine Bp (by kernel_rfl) (λE t=>∃(b:Nat) (h:Bool) (f:Int) (E0:Nat->Value),b<=es.length/\E=BN E0 [(2,I h),(3,J f),(14,V m es.length i),(15,J ((es.length:Int))),(16,J ((b:Int)))]/\(Eg es)=EJ (List.drop b es) h f/\Wk w t [] [] []) (λE _=>es.length-AP (E 16)) ⟨0,false,(-1),E7,Nat.zero_le _,rfl,d,K7⟩ ?_;clear d;rintro E t ⟨b,h,f,E0,b1,rfl,d,K8⟩ l;refine AC fQ K8 [] λw9 K9=>?_;refine AH (decide ((b:Int)<(es.length:Int))) (λs=>?_) (λs=>?_)
 ·have j:b<es.length:=by have:=of_decide_eq_true s;omega
  obtain⟨a,y⟩:∃e,es[b]?=some e:=⟨_,getElem?_eq_getElem j⟩;rw[NV b a y]at d;obtain⟨p,q,rfl,a0,b0⟩:=z.all (by omega);have v:=b0 b _ y;refine Ao Aa AB8 K9 [] λj0 g0=>?_;refine Aw (g:=p) (off:=q) (cap:=i) (sz:=3) (k:=b) (len:=es.length) (some 18) j Tryz.underlying67 ?_;refine Bd 107 p (q+b*3) _ (some 19) (Aj v a0 g0.B) ?_;refine Bg 7 AB7 [N (U j0) [J a.1,J a.2.1,J a.2.2] 107] g0 [(0,0)] λa1 d0=>?_;refine Ap d0 [(1,0,0),(6,0,0),(11,0,1)] [⟨12,[(31,D [J a.2.1,J a.2.2])],I (AV a.2.1 a.2.2),(!(cond (decide (a.1<=f)) (true) (decide (1000000<a.1))))&&(true)⟩] d0.G (λsp o=>?_) λz0 c1 r0=>?_
  ·rw[mem_singleton.1 o];exact AU 36 [.tmp 31] _ (λ_=>by kernel_rfl) λhc u hu=>AR hu (Bw a.2.1 a.2.2 u)
  refine AC AB6 r0 [] λx0 c0=>?_;refine AH (cond (cond (decide (a.1<=f)) (true) (decide (1000000<a.1))) (true) (!(AV a.2.1 a.2.2))) (λr=>?_) (λr=>?_)
  ·refine AC AHy c0 [] λw0 q0=>?_;exact AQ q0 (0,0) _ (by rw[d,r]<;>rfl)
  refine AC (Ab p5) c0 [(0,0)] λh0 p0=>?_;refine AX [(2,I h),(3,J a.1),(14,V (some ⟨p,q,none⟩) es.length i),(15,J ((es.length:Int))),(16,J (IntKind.i64.wrap ((b:Int)+1)))] λt0=>?_;have m0:Wk w h0 [] [] []:=p0.pk [] [];rw[Bs b (by omega)];refine l _ _ ⟨b+1,h,a.1,t0,j,rfl,by rw[d,r]<;>rfl,m0⟩ ?_;show es.length-AP (J ((b+1:Nat):Int))<es.length-AP (J (b:Int));simp only[AP];omega
 have x:b=es.length:=by have:=of_decide_eq_false s;omega
 rw[x,drop_length,NZ]at d;refine AC AHx K9 [] λv0 l0=>?_;exact AQ l0 (0,0) _ (by rw[d]<;>rfl)
def Hs (d:Df) (b:Df):Bool:=cond (!(decide (d.name=b.name))) (false) (cond (cond (d.kind==5) (true) (b.kind==5)) (d.kind==b.kind) (cond (cond (cond (!(d.kind==b.kind)) (true) (d.kind==1)) (true) (!((((Am d.kind d.tb d.tm d.th d.td).1)==((Am b.kind b.tb b.tm b.th b.td).1))&&(((Am d.kind d.tb d.tm d.th d.td).2.1==(Am b.kind b.tb b.tm b.th b.td).2.1)&&(((Am d.kind d.tb d.tm d.th d.td).2.2.1==(Am b.kind b.tb b.tm b.th b.td).2.2.1)&&((Am d.kind d.tb d.tm d.th d.td).2.2.2==(Am b.kind b.tb b.tm b.th b.td).2.2.2)))))) (true) (d.frm==b.frm)))
noncomputable def ne:Code:=Tryz.f50.body.getD .skip
def ABD:=Ac 1 ([.code ne])
def pi:=Ω ABD
def AHa:=Θ pi
def ABC:=Ac 3 (AG pi)
def ph:=Ω ABC
def AHZ:=Θ ph
def ABB:=Ac 5 (AG ph)
def AHY:=Ω ABB
theorem Y6 (d:Df) (i:Option Addr) (o:Nat) (h:Option Addr) (m:Nat) (b:Df) (g:Option Addr) (l:Nat) (f:Option Addr) (j:Nat) (w:World) (b0:Dl w i d.ents) (a0:rowsEx w h d.body.ks) (d0:Dl w g b.ents) (c0:rowsEx w f b.body.ks):Calls Tryz.prog 50 ([D ((ψ d i o h m)),D ((ψ b g l f j))]:List Value).toArray w λe w'=>e=.returned (I (Hs d b))/\Below (U w) w w':=by
 refine AS (fn:=Tryz.f50) (c:=ne) (n:=47) ?_;have K1:=Wk.start w;refine Bg 1 ABD [N (U w) ((CL d i o h m)) 72,N (U w+1) ((CL b g l f j)) 72] K1 [] λw1 K2=>?_;refine Ap K2 [(1,0,1),(3,1,1)] [⟨4,[(6,Y (d.name)),(8,Y (b.name))],I (!(decide (d.name=b.name))),true⟩] K2.G (λz p=>?_) λw2 E2 K3=>?_
 ·rw[mem_singleton.1 p];exact BR λ_ E u _=>Ln (T:=9) (T':=9) (x:=.tmp 6) (y:=.tmp 8) (by kernel_rfl) (by kernel_rfl) (by kernel_rfl)
 refine AC pi K3 [] λw3 K4=>?_;refine AH (!(decide (d.name=b.name))) (λr=>?_) (λr=>?_)
 ·refine AC AHa K4 [] λw5 K5=>?_;exact AQ K5 (0,0) _ (by unfold Hs;rw[r]<;>rfl)
 refine Al 3 ABC K4 [] λw6 K6=>?_;refine Ap K6 [(1,0,0),(5,1,0)] [] K6.G (λz p=>by cases p) λw7 E7 K7=>?_;refine AC ph K7 [] λw8 K8=>?_;refine AH (cond (d.kind==5) (true) (b.kind==5)) (λs=>?_) (λs=>?_)
 ·refine AC AHZ K8 [(0,0),(1,0)] λi0 K9=>?_;exact AQ K9 (0,0) _ (by unfold Hs;rw[r,s]<;>rfl)
 refine Al 5 ABB K8 [] λh0 q=>?_;refine Ap q [(1,0,0),(3,1,0),(7,0,0),(11,0,0),(13,1,0),(19,0,6),(21,1,6)] [⟨12,[(34,D ((ψ d i o h m)))],Ed (Am d.kind d.tb d.tm d.th d.td),(!(cond (!(d.kind==b.kind)) (true) (d.kind==1)))&&(true)⟩,⟨14,[(36,D ((ψ b g l f j)))],Ed (Am b.kind b.tb b.tm b.th b.td),(!(cond (!(d.kind==b.kind)) (true) (d.kind==1)))&&(true)⟩,⟨15,[(35,Ed (Am d.kind d.tb d.tm d.th d.td)),(37,Ed (Am b.kind b.tb b.tm b.th b.td))],I (!((((Am d.kind d.tb d.tm d.th d.td).1)==((Am b.kind b.tb b.tm b.th b.td).1))&&(((Am d.kind d.tb d.tm d.th d.td).2.1==(Am b.kind b.tb b.tm b.th b.td).2.1)&&(((Am d.kind d.tb d.tm d.th d.td).2.2.1==(Am b.kind b.tb b.tm b.th b.td).2.2.1)&&((Am d.kind d.tb d.tm d.th d.td).2.2.2==(Am b.kind b.tb b.tm b.th b.td).2.2.2))))),(!(cond (!(d.kind==b.kind)) (true) (d.kind==1)))&&(true)⟩] q.G (λz p=>?_) λg0 j0 v=>?_
 ·simp only[mem_cons,not_mem_nil,or_false]at p;rcases p with rfl | rfl | rfl
  ·exact AU 83 [.tmp 34] _ (λ_=>by kernel_rfl) λhc u hu=>AR hu (Jm d.kind d.name d.tb d.tm d.th d.td d.frm i d.ents.length o d.body.op d.body.num d.body.den d.body.mu d.body.hu d.body.du d.body.nm d.body.cnt d.body.md h d.body.ks.length m d.mode d.num d.den u)
  ·exact AU 83 [.tmp 36] _ (λ_=>by kernel_rfl) λhc u hu=>AR hu (Jm b.kind b.name b.tb b.tm b.th b.td b.frm g b.ents.length l b.body.op b.body.num b.body.den b.body.mu b.body.hu b.body.du b.body.nm b.body.cnt b.body.md f b.body.ks.length j b.mode b.num b.den u)
  exact BR λ_ E u _=>DS (k:=.neq) (T:=65) (a:=Ed (Am d.kind d.tb d.tm d.th d.td)) (b:=Ed (Am b.kind b.tb b.tm b.th b.td)) (SG u ((Am d.kind d.tb d.tm d.th d.td).1) ((Am d.kind d.tb d.tm d.th d.td).2.1) ((Am d.kind d.tb d.tm d.th d.td).2.2.1) ((Am d.kind d.tb d.tm d.th d.td).2.2.2) ((Am b.kind b.tb b.tm b.th b.td).1) ((Am b.kind b.tb b.tm b.th b.td).2.1) ((Am b.kind b.tb b.tm b.th b.td).2.2.1) ((Am b.kind b.tb b.tm b.th b.td).2.2.2))
 refine AC AHY v [] λe0 t=>?_;exact AQ t (0,0) _ (by unfold Hs;rw[r,s]<;>rfl)
def BM (d:Df):Bool:=cond (d.kind==3) (true) (d.kind==4)
noncomputable def n5:Code:=Tryz.f89.body.getD .skip
def ABk:=Ac 1 ([.code n5])
def AHq:=Ω ABk
theorem Ij (d:Df) (b:Option Addr) (g:Nat) (a:Option Addr) (f:Nat) (w:World) (j:Dl w b d.ents) (i:rowsEx w a d.body.ks):Calls Tryz.prog 89 ([D ((ψ d b g a f))]:List Value).toArray w λe w'=>e=.returned (I (BM d))/\Below (U w) w w':=by refine AS (fn:=Tryz.f89) (c:=n5) (n:=11) ?_;have o:=Wk.start w;refine Bg 1 ABk [N (U w) ((CL d b g a f)) 72] o [] λr k=>?_;refine Ap k [(1,0,0),(5,0,0)] [] k.G (λs h=>by cases h) λq t m=>?_;refine AC AHq m [] λp l=>?_;exact AQ l (0,0) _ (by unfold BM;rfl)
def DU (ds:List (Df)) (p1:Int) (i:Nat):List (Df)->Nat->Bool->Bool
 | [],i0,a0_0=>false
 | e0::tl,i0,a0_0=>cond (cond (cond (!(e0.kind==(ds.getD i default).kind)) (true) (!(decide (e0.name=(ds.getD i default).name)))) (true) (decide (p1<e0.frm))) (DU ds p1 i tl (i0+1) a0_0) (cond (cond (decide ((ds.getD i default).frm<e0.frm)) (true) (cond (e0.frm==(ds.getD i default).frm) (decide ((i0:Int)<(i:Int))) (false))) (true) (DU ds p1 i tl (i0+1) a0_0))
theorem Pa {ds:List (Df)} {p1:Int} {i:Nat} {b:Nat} {a:Bool}:DU ds p1 i [] b a=(false):=by rw[DU]
theorem Ou {ds:List (Df)} {p1:Int} {i:Nat} {a:Bool} {es:List (Df)} (b:Nat) (c:Df) (hi:es[b]?=some c):DU ds p1 i (es.drop b) b a=(cond (cond (cond (!(c.kind==(κ ds i).kind)) (true) (!(decide (c.name=(κ ds i).name)))) (true) (decide (p1<c.frm))) (DU ds p1 i (es.drop (b+1)) (b+1) a) (cond (cond (decide ((κ ds i).frm<c.frm)) (true) (cond (c.frm==(κ ds i).frm) (decide ((b:Int)<(i:Int))) (false))) (true) (DU ds p1 i (es.drop (b+1)) (b+1) a))):=by have hl:b<es.length:=(List.getElem?_eq_some_iff.1 hi).1;have he:es[b]=c:=(List.getElem?_eq_some_iff.1 hi).2;rw[<-getElem_cons_drop hl,DU]<;>(try rw[he])
def Eb (ds:List (Df)) (p1:Int) (i:Nat):Bool:=DU ds p1 i ds 0 false
noncomputable def YA:Code:=Tryz.f118.body.getD .skip
def ABZ:=AB (Aq Aa 90 ([.code YA])) ([.code YA])
def el:=ν (AD (AD ABZ))
def ej:=ν (Au el)
def ABY:=AB (Aq Aa 90 (AE ej)) (AE ej)
def ABX:=Ac 5 (AD (AD ABY))
def ABW:=Ω ABX
def ABV:=Ac 6 (AG ABW)
def ABU:=Ω ABV
def AHk:=Θ ABU
def AHj:=Ξ ej
theorem W7 (c1:List UInt8) (z:Option Addr) (ds:List (Df)) (b:Nat) (p1:Int) (i:Nat) (w:World) (v0:rowsDf w z ds) (d1:ds.length<=4294967296) (a0:i<ds.length):Calls Tryz.prog 118 ([D [Y c1,V z ds.length b],J p1,J ((i:Int))]:List Value).toArray w λe w'=>e=.returned (I (Eb ds p1 i))/\Below (U w) w w':=by
 refine AS (fn:=Tryz.f118) (c:=YA) (n:=59) ?_;have K1:=Wk.start w;obtain⟨p,q,rfl,b0,c0⟩:=v0.all (by omega);have e1:ds[i]?=some (κ ds i):=getD_some default a0;obtain⟨j,f,h,d,q0,i1,h1⟩:=c0 i _ e1;refine ax Aa ABZ K1 [(0,1)] λt K2=>?_;refine Aw (g:=p) (off:=q) (cap:=b) (sz:=21) (k:=i) (len:=ds.length) (some 13) a0 Tryz.underlying25 ?_;refine Bd 72 p (q+i*21) _ (some 14) (Aj q0 b0 K2.B) ?_;refine Ar el K2 [(1,0),(0,1)] λw2 K3=>?_;have K4:Wk w w2 [N (U t) ((CL (κ ds i) j f h d)) 72] [] []:=K3.pk [1] [];have m:(Eb ds p1 i)=DU ds p1 i ds 0 false:=by unfold Eb;rfl
 refine AX [(1,J p1),(2,J ((i:Int))),(6,I false),(7,Z (U t)),(16,V (some ⟨p,q,none⟩) ds.length b),(17,J ((ds.length:Int))),(18,J (((0:Nat):Int)))] λE3=>?_;refine Bp (by kernel_rfl) (λE m0=>∃(a:Nat) (l:Bool) (E0:Nat->Value),a<=ds.length/\E=BN E0 [(1,J p1),(2,J ((i:Int))),(6,I l),(7,Z (U t)),(16,V (some ⟨p,q,none⟩) ds.length b),(17,J ((ds.length:Int))),(18,J ((a:Int)))]/\(Eb ds p1 i)=DU ds p1 i (List.drop a ds) a l/\Wk w m0 [N (U t) ((CL (κ ds i) j f h d)) 72] [] []) (λE _=>ds.length-AP (E 18)) ⟨0,false,E3,Nat.zero_le _,rfl,m,K4⟩ ?_;clear m;rintro E m0 ⟨a,l,E0,c2,rfl,m,K5⟩ o;refine AC ej K5 [] λw5 K6=>?_;refine AH (decide ((a:Int)<(ds.length:Int))) (λc6=>?_) (λc6=>?_)
 ·have r:a<ds.length:=by have:=of_decide_eq_true c6;omega
  obtain⟨s,t0⟩:∃e,ds[a]?=some e:=⟨_,getElem?_eq_getElem r⟩;rw[Ou a s t0]at m;obtain⟨l0,h0,k0,g0,p0,g1,f1⟩:=c0 a _ t0;refine Ao Aa ABY K6 [] λw7 K7=>?_;refine Aw (g:=p) (off:=q) (cap:=b) (sz:=21) (k:=a) (len:=ds.length) (some 21) r Tryz.underlying25 ?_;refine Bd 72 p (q+a*21) _ (some 22) (Aj p0 b0 K7.B) ?_;refine Bg 5 ABX [N (U t) ((CL (κ ds i) j f h d)) 72,N (U w7) ((CL s l0 h0 k0 g0)) 72] K7 [(1,0)] λw8 K8=>?_;refine Ap K8 [(1,1,0),(3,0,0),(7,1,1),(9,0,1),(14,1,6)] [⟨10,[(30,Y (s.name)),(32,Y ((κ ds i).name))],I (!(decide (s.name=(κ ds i).name))),(!(!(s.kind==(κ ds i).kind)))&&(true)⟩] K8.G (λsp d0=>?_) λw9 E9 K9=>?_
  ·rw[mem_singleton.1 d0];exact BR λ_ E u _=>Ln (T:=9) (T':=9) (x:=.tmp 30) (y:=.tmp 32) (by kernel_rfl) (by kernel_rfl) (by kernel_rfl)
  refine AC ABW K9 [] λb2 z0=>?_;refine AH (cond (cond (!(s.kind==(κ ds i).kind)) (true) (!(decide (s.name=(κ ds i).name)))) (true) (decide (p1<s.frm))) (λv=>?_) (λv=>?_)
  ·refine AC (Ab el) z0 [] λb1 r1=>?_;refine AX [(1,J p1),(2,J ((i:Int))),(6,I l),(7,Z (U t)),(16,V (some ⟨p,q,none⟩) ds.length b),(17,J ((ds.length:Int))),(18,J (IntKind.i64.wrap ((a:Int)+1)))] λt1=>?_;have q1:Wk w b1 [N (U t) ((CL (κ ds i) j f h d)) 72] [] []:=r1.pk [0] [];rw[Bs a (by omega)];refine o _ _ ⟨a+1,l,t1,r,rfl,by rw[m,v]<;>rfl,q1⟩ ?_;show ds.length-AP (J ((a+1:Nat):Int))<ds.length-AP (J (a:Int));simp only[AP];omega
  refine Al 6 ABV z0 [] λa2 x0=>?_;refine Ap x0 [(1,1,6),(3,0,6),(7,1,6),(9,0,6)] [] x0.G (λsp d0=>by cases d0) λz1 d2 o1=>?_;refine AC ABU o1 [] λy1 w0=>?_;refine AH (cond (decide ((κ ds i).frm<s.frm)) (true) (cond (s.frm==(κ ds i).frm) (decide ((a:Int)<(i:Int))) (false))) (λj0=>?_) (λj0=>?_)
  ·refine AC AHk w0 [] λx1 n1=>?_;exact AQ n1 (0,0) _ (by rw[m,v,j0]<;>rfl)
  refine AC (Ab el) w0 [] λa1 m1=>?_;refine AX [(1,J p1),(2,J ((i:Int))),(6,I l),(7,Z (U t)),(16,V (some ⟨p,q,none⟩) ds.length b),(17,J ((ds.length:Int))),(18,J (IntKind.i64.wrap ((a:Int)+1)))] λs1=>?_;have l1:Wk w a1 [N (U t) ((CL (κ ds i) j f h d)) 72] [] []:=m1.pk [0] [];rw[Bs a (by omega)];refine o _ _ ⟨a+1,l,s1,r,rfl,by rw[m,v,j0]<;>rfl,l1⟩ ?_;show ds.length-AP (J ((a+1:Nat):Int))<ds.length-AP (J (a:Int));simp only[AP];omega
 have r0:a=ds.length:=by have:=of_decide_eq_false c6;omega
 rw[r0,drop_length,Pa]at m;refine AC AHj K6 [] λv1 k1=>?_;exact AQ k1 (0,0) _ (by rw[m]<;>rfl)
theorem rowsDf.agr {w:World} {A:Option Addr} {c:Nat} {nm:List UInt8} {ds:List Df} (h:rowsDf w A ds):YS w nm ds [Y nm,V A ds.length c]:=
 let ⟨rs,h1,h2⟩:=h
 ⟨A,c,rs,rfl,h1,h2⟩
def Ee (p0a:List UInt8) (ds:List (Df)) (p1:Int):Int:=cond (!(Er p0a ds)) (1) (cond (cond (decide (p1<0)) (true) (decide (84005<p1))) (2) (0))
noncomputable def n0:Code:=Tryz.f87.body.getD .skip
def ABj:=ν ([.code n0])
def py:=Ψ ABj
def AHp:=Θ py
def ABi:=Ac 3 (AG py)
def px:=Ω ABi
def AHo:=Θ px
def AHn:=Ξ px
theorem Rq (a:List UInt8) (b:Option Addr) (ds:List (Df)) (f:Nat) (p1:Int) (w:World) (h:rowsDf w b ds) (g:ds.length<=4294967296) (hs:a.length<=4294967296) (ht:∀d∈ds,Ii d):Calls Tryz.prog 87 ([D [Y a,V b ds.length f],J p1]:List Value).toArray w λe w'=>e=.returned (J (Ee a ds p1))/\Below (U w) w w':=by
 refine AS (fn:=Tryz.f87) (c:=n0) (n:=14) ?_;have z:=Wk.start w;refine An ABj [N (U w) [Y a,V b ds.length f] 27] z [(0,0)] λt q=>?_;refine AW q (args:=[D [Y a,V b ds.length f]]) (MW a ds _ t hs g ht (h.below q.B).agr) λw2 y=>?_;refine AC py y [] λw3 p=>?_;refine AH (!(Er a ds)) (λi=>?_) (λi=>?_)
 ·refine AC AHp p [] λw5 x=>?_;exact AQ x (0,0) _ (by unfold Ee;rw[i]<;>rfl)
 refine Al 3 ABi p [] λw6 o=>?_;refine Ap o [] [] o.G (λsp j=>by cases j) λw7 E7 v=>?_;refine AC px v [] λw8 m=>?_;refine AH (cond (decide (p1<0)) (true) (decide (84005<p1))) (λk=>?_) (λk=>?_)
 ·refine AC AHo m [] λs u=>?_;exact AQ u (0,0) _ (by unfold Ee;rw[i,k]<;>rfl)
 refine AC AHn m [] λr l=>?_;exact AQ l (0,0) _ (by unfold Ee;rw[i,k]<;>rfl)
def DX (d:Df) (ns:List (Df)) (ss:List (Df)) (ps:List (Df)):Int:=cond (!((Bv d.body ns ss ps).2.2.2.2==0)) ((Bv d.body ns ss ps).2.2.2.2) (Gu ((Bv d.body ns ss ps).1) ((Bv d.body ns ss ps).2.1) ((Bv d.body ns ss ps).2.2.1) ((Bv d.body ns ss ps).2.2.2.1) ((Am d.kind d.tb d.tm d.th d.td).1) ((Am d.kind d.tb d.tm d.th d.td).2.1) ((Am d.kind d.tb d.tm d.th d.td).2.2.1) ((Am d.kind d.tb d.tm d.th d.td).2.2.2))
noncomputable def nj:Code:=Tryz.f52.body.getD .skip
def ABF:=ν ([.code nj])
def pj:=Ψ ABF
def AHc:=Θ pj
def ABE:=Ac 4 (AG pj)
def AHb:=Ω ABE
theorem Tv (d:Df) (g:Option Addr) (h:Nat) (b:Option Addr) (f:Nat) (k:Option Addr) (ns:List (Df)) (o:Nat) (j:Option Addr) (ss:List (Df)) (m:Nat) (i:Option Addr) (a:List (Df)) (l:Nat) (w:World) (a0:Dl w g d.ents) (t:rowsEx w b d.body.ks) (s:rowsDf w k ns) (z:ns.length<=4294967296) (q:rowsDf w j ss) (x:ss.length<=4294967296) (r:rowsDf w i a) (y:a.length<=4294967296) (ht:EB d.body):Calls Tryz.prog 52 ([D ((ψ d g h b f)),V k ns.length o,V j ss.length m,V i a.length l]:List Value).toArray w λe w'=>e=.returned (J (DX d ns ss a))/\Below (U w) w w':=by
 refine AS (fn:=Tryz.f52) (c:=nj) (n:=27) ?_;have K1:=Wk.start w;refine Ar ABF K1 [(0,8)] λw1 v=>?_;refine AW v (Uo d.body b f k ns o j ss m i a l w1 (t.below v.B) (s.below v.B) (by first | assumption | omega | (simp<;>omega)) (q.below v.B) (by first | assumption | omega | (simp<;>omega)) (r.below v.B) (by first | assumption | omega | (simp<;>omega)) ht) λw2 K3=>?_;refine An pj [N (U w) ((CL d g h b f)) 72,N (U w2) [I ((Bv d.body ns ss a).1),J ((Bv d.body ns ss a).2.1),J ((Bv d.body ns ss a).2.2.1),J ((Bv d.body ns ss a).2.2.2.1)] 65] K3 [(1,0)] λw3 K4=>?_;refine AH (!((Bv d.body ns ss a).2.2.2.2==0)) (λc4=>?_) (λc4=>?_)
 ·refine AC AHc K4 [] λw5 K5=>?_;exact AQ K5 (0,0) _ (by unfold DX;rw[c4]<;>rfl)
 refine Al 4 ABE K4 [] λw6 K6=>?_;refine Ap K6 [(0,1,0),(1,0,0)] [⟨2,[(24,D ((ψ d g h b f)))],Ed (Am d.kind d.tb d.tm d.th d.td),true⟩,⟨3,[(23,D [I ((Bv d.body ns ss a).1),J ((Bv d.body ns ss a).2.1),J ((Bv d.body ns ss a).2.2.1),J ((Bv d.body ns ss a).2.2.2.1)]),(25,Ed (Am d.kind d.tb d.tm d.th d.td))],J (Gu ((Bv d.body ns ss a).1) ((Bv d.body ns ss a).2.1) ((Bv d.body ns ss a).2.2.1) ((Bv d.body ns ss a).2.2.2.1) ((Am d.kind d.tb d.tm d.th d.td).1) ((Am d.kind d.tb d.tm d.th d.td).2.1) ((Am d.kind d.tb d.tm d.th d.td).2.2.1) ((Am d.kind d.tb d.tm d.th d.td).2.2.2)),true⟩] K6.G (λsp p=>?_) λw7 E7 K7=>?_
 ·simp only[mem_cons,not_mem_nil,or_false]at p;rcases p with rfl | rfl
  ·exact AU 83 [.tmp 24] _ (λ_=>by kernel_rfl) λhc u hu=>AR hu (Jm d.kind d.name d.tb d.tm d.th d.td d.frm g d.ents.length h d.body.op d.body.num d.body.den d.body.mu d.body.hu d.body.du d.body.nm d.body.cnt d.body.md b d.body.ks.length f d.mode d.num d.den u)
  exact AU 85 [.tmp 23,.tmp 25] _ (λ_=>by kernel_rfl) λhc u hu=>AR hu (TZ ((Bv d.body ns ss a).1) ((Bv d.body ns ss a).2.1) ((Bv d.body ns ss a).2.2.1) ((Bv d.body ns ss a).2.2.2.1) ((Am d.kind d.tb d.tm d.th d.td).1) ((Am d.kind d.tb d.tm d.th d.td).2.1) ((Am d.kind d.tb d.tm d.th d.td).2.2.1) ((Am d.kind d.tb d.tm d.th d.td).2.2.2) u)
 refine AC AHb K7 [] λw8 K8=>?_;exact AQ K8 (0,0) _ (by unfold DX;rw[c4]<;>rfl)
def C1 (F:Df->Bool):List (Df)->Nat->Int->Int
 | [],i0,a0_0=>-1
 | e0::tl,i0,a0_0=>cond (F e0) ((i0:Int)) (C1 F tl (i0+1) a0_0)
theorem Re {F:Df->Bool} {b:Nat} {a:Int}:C1 F [] b a=(-1):=by rw[C1]
theorem Pw {F:Df->Bool} {b:Int} {es:List (Df)} (a:Nat) (c:Df) (hi:es[a]?=some c):C1 F (es.drop a) a b=(cond (F c) ((a:Int)) (C1 F (es.drop (a+1)) (a+1) b)):=by have hl:a<es.length:=(List.getElem?_eq_some_iff.1 hi).1;have he:es[a]=c:=(List.getElem?_eq_some_iff.1 hi).2;rw[<-getElem_cons_drop hl,C1]<;>(try rw[he])
def AK (F:Df->Bool) (ds:List (Df)):Int:=C1 F ds 0 0
noncomputable def m8:Code:=Tryz.f82.body.getD .skip
def oo:=ν ([.code m8])
def bL:=ν (Au oo)
def yS:=AB (Aq Aa 90 (AE bL)) (AE bL)
def yR:=ν (AD (AD yS))
def yQ:=Ψ yR
def AGh:=Θ yQ
def AGg:=Ξ bL
theorem PH (F:Df->Bool) (j:Option Addr) (ds:List (Df)) (f:Nat) (g:FuncId) (cap:List Value) (w:World) (b0:rowsDf w j ds) (h0:ds.length<=4294967296) (hg:Dr Tryz.prog g=true) (hF:∀u,Below (U w) w u->∀(e:Df) (A1:Option Addr) (c1:Nat) (A2:Option Addr) (c2:Nat),Dl u A1 e.ents->rowsEx u A2 e.body.ks->Calls Tryz.prog g (D (CL e A1 c1 A2 c2)::cap).toArray u λen w'=>en=.returned (I (F e))/\Below (U u) u w'):Calls Tryz.prog 82 ([V j ds.length f,.func (.func g) #[] ⟨cap⟩]:List Value).toArray w λe w'=>e=.returned (J (AK F ds))/\Below (U w) w w':=by
 refine AS (fn:=Tryz.f82) (c:=m8) (n:=19) ?_;have K1:=Wk.start w;refine AC oo K1 [] λw1 K2=>?_;have K3:Wk w w1 [] [] []:=K2.pk [] [];have b:(AK F ds)=C1 F ds 0 0:=by unfold AK;rfl
 refine AX [(0,V j ds.length f),(1,.func (.func g) #[] ⟨cap⟩),(4,J 0),(7,J ((ds.length:Int))),(8,J (((0:Nat):Int)))] λE2=>?_;refine Bp (by kernel_rfl) (λE x=>∃(a:Nat) (d:Int) (E0:Nat->Value),a<=ds.length/\E=BN E0 [(0,V j ds.length f),(1,.func (.func g) #[] ⟨cap⟩),(4,J d),(7,J ((ds.length:Int))),(8,J ((a:Int)))]/\(AK F ds)=C1 F (List.drop a ds) a d/\Wk w x [] [] []) (λE _=>ds.length-AP (E 8)) ⟨0,0,E2,Nat.zero_le _,rfl,b,K3⟩ ?_;clear b;rintro E x ⟨a,d,E0,t0,rfl,b,K4⟩ i;refine AC bL K4 [] λw4 K5=>?_;refine AH (decide ((a:Int)<(ds.length:Int))) (λc5=>?_) (λc5=>?_)
 ·have h:a<ds.length:=by have:=of_decide_eq_true c5;omega
  obtain⟨e0,a0⟩:∃e,ds[a]?=some e:=⟨_,getElem?_eq_getElem h⟩;rw[Pw a e0 a0]at b;obtain⟨o,p,rfl,c0,d0⟩:=b0.all (by omega);obtain⟨v,r,t,q,y,m,l⟩:=d0 a _ a0;refine Ao Aa yS K5 [] λw6 K6=>?_;refine Aw (g:=o) (off:=p) (cap:=f) (sz:=21) (k:=a) (len:=ds.length) (some 14) h Tryz.underlying25 ?_;refine Bd 72 o (p+a*21) _ (some 15) (Aj y c0 K6.B) ?_;refine AC yR K6 [] λw7 K7=>?_;refine OK g (D ((ψ e0 v r t q))::cap) (hg:=hg) (hF w7 K7.B _ _ _ _ _ (m.below K7.B) (l.below K7.B)) λen w8 hh=>?_;obtain⟨rfl,b8⟩:=hh;refine⟨_,rfl,?_⟩;have K8:=K7.below b8;refine AC yQ K8 [] λw9 K9=>?_;refine AH (F e0) (λs=>?_) (λs=>?_)
  ·refine AC AGh K9 [] λr0 m0=>?_;exact AQ m0 (0,0) _ (by rw[b,s]<;>rfl)
  refine AC (Ab oo) K9 [] λg0 l0=>?_;refine AX [(0,V (some ⟨o,p,none⟩) ds.length f),(1,.func (.func g) #[] ⟨cap⟩),(4,J d),(7,J ((ds.length:Int))),(8,J (IntKind.i64.wrap ((a:Int)+1)))] λp0=>?_;have k0:Wk w g0 [] [] []:=l0.pk [] [];rw[Bs a (by omega)];refine i _ _ ⟨a+1,d,p0,h,rfl,by rw[b,s]<;>rfl,k0⟩ ?_;show ds.length-AP (J ((a+1:Nat):Int))<ds.length-AP (J (a:Int));simp only[AP];omega
 have z:a=ds.length:=by have:=of_decide_eq_false c5;omega
 rw[z,drop_length,Re]at b;refine AC AGg K5 [] λq0 j0=>?_;exact AQ j0 (0,0) _ (by rw[b]<;>rfl)
def Ei (F:Df->Bool) (ds:List (Df)):Bool:=decide (0<=AK F ds)
noncomputable def Zn:Code:=Tryz.f48.body.getD .skip
def rI:=ν ([.code Zn])
def ADG:=Ψ rI
theorem SW (F:Df->Bool) (a:Option Addr) (ds:List (Df)) (d:Nat) (g:FuncId) (cap:List Value) (w:World) (f:rowsDf w a ds) (b:ds.length<=4294967296) (hg:Dr Tryz.prog g=true) (m:∀u,Below (U w) w u->∀(e:Df) (j:Option Addr) (q:Nat) (i:Option Addr) (p:Nat),Dl u j e.ents->rowsEx u i e.body.ks->Calls Tryz.prog g (D (CL e j q i p)::cap).toArray u λo w'=>o=.returned (I (F e))/\Below (U u) u w'):Calls Tryz.prog 48 ([V a ds.length d,.func (.func g) #[] ⟨cap⟩]:List Value).toArray w λe w'=>e=.returned (I (Ei F ds))/\Below (U w) w w':=by refine AS (fn:=Tryz.f48) (c:=Zn) (n:=9) ?_;have v:=Wk.start w;refine AC rI v [] λk h=>?_;refine AW h (args:=[V a ds.length d,.func (.func g) #[] ⟨cap⟩]) (PH F _ ds _ g cap k (f.below h.B) b hg (λl r=>m l (h.B.trans (r.mono h.B.size)))) λy t=>?_;refine AC ADG t [] λx s=>?_;exact AQ s (0,0) _ (by unfold Ei;rfl)
def wg (T:TypeId) (x:Nat):Op->Bool
 | .load t (.tmp y)=>t==T&&y==x
 | _=>false
def Hu (x:Df) (d:Df):Bool:=Hs x d
noncomputable def X8:Code:=Tryz.f49.body.getD .skip
def AA7:=AB (Aq (wg 72 1) 90 ([.code X8])) ([.code X8])
def AA6:=ν (AD (AA7))
def AHU:=Ψ AA6
theorem Y7 (x:Df) (g:Option Addr) (j:Nat) (f:Option Addr) (i b:Nat) (d:Df) (l:Option Addr) (s:Nat) (k:Option Addr) (r:Nat) (w:World) (o:Dl w g x.ents) (m:rowsEx w f x.body.ks) (h:b<(U w)) (a:w.rangeAt b 0 (ψ d l s k r)) (q:Dl w l d.ents) (p:rowsEx w k d.body.ks):Calls Tryz.prog 49 ([D ((ψ x g j f i)),Z b]:List Value).toArray w λe w'=>e=.returned (I (Hu x d))/\Below (U w) w w':=by refine AS (fn:=Tryz.f49) (c:=X8) (n:=7) ?_;have z:=h;have u:=a;have K1:=Wk.start w;refine ax (wg 72 1) AA7 K1 [(0,0)] λw1 v=>?_;refine Bd 72 b 0 _ (some 5) (Aj a h v.B) ?_;refine AC AA6 v [] λy t=>?_;refine AW t (Y6 x g j f i d l s k r y (o.below t.B) (m.below t.B) (q.below t.B) (p.below t.B)) λw3 K4=>?_;refine AC AHU K4 [] λw4 K5=>?_;exact AQ K5 (0,0) _ (by unfold Hu;rfl)
def AF (x:Df) (d:Df):Bool:=decide (x.name=d.name)
noncomputable def nb:Code:=Tryz.f84.body.getD .skip
def AA5:=Ac 1 ([.code nb])
def AHT:=Ω AA5
theorem R2 (x:Df) (f:Option Addr) (i:Nat) (a:Option Addr) (h b:Nat) (d:Df) (m:Option Addr) (q:Nat) (l:Option Addr) (p:Nat) (w:World) (v:Dl w f x.ents) (t:rowsEx w a x.body.ks) (k:b<(U w)) (g:w.rangeAt b 0 (ψ d m q l p)) (a0:Dl w m d.ents) (z:rowsEx w l d.body.ks):Calls Tryz.prog 84 ([D ((ψ x f i a h)),Z b]:List Value).toArray w λe w'=>e=.returned (I (AF x d))/\Below (U w) w w':=by
 refine AS (fn:=Tryz.f84) (c:=nb) (n:=9) ?_;have o:=k;have j:=g;have K1:=Wk.start w;refine Bg 1 AA5 [N (U w) ((CL x f i a h)) 72] K1 [] λw1 r=>?_;refine Ap r [(1,0,1),(3,1,1)] [⟨4,[(5,Y (x.name)),(7,Y (d.name))],I (decide (x.name=d.name)),true⟩] (II (x:=⟨b,0+0*0,ψ d m q l p,72,false⟩) r.G ⟨Nat.lt_of_lt_of_le o r.B.size,Aj j o r.B⟩) (λsp s=>?_) λw2 E2 K3=>?_
 ·rw[mem_singleton.1 s];exact BR λ_ E u _=>Iq (T:=9) (T':=9) (x:=.tmp 5) (y:=.tmp 7)
 refine AC AHT K3 [] λw3 K4=>?_;exact AQ K4 (0,0) _ (by unfold AF;rfl)
end
end Go.Proofs.YtkpemkkbjfbmaaaGreat
namespace Go.Proofs.YtkpemkkbjfbmaaaGreat
open List
open Go.RowKit
set_option maxRecDepth 100000
section
variable {b:Nat} {w w':World} {L L':List Th}
theorem Yz {n:Nat} {xs:List (List Value)} (hn:∀r∈xs,r.length=n):∀(i:Nat) (r:List Value),xs[i]?=some r->∀(j:Nat) u,r[j]?=some u->xs.flatten[i*n+j]?=some u:=by
 induction xs with
 | nil=>intro i e hi;simp at hi
 | cons x xs ih=>
  intro i r hi j u hu;have hx:x.length=n:=hn x (by simp)
  cases i with
  | zero=>
   simp at hi;subst hi;have a:j<x.length:=(List.getElem?_eq_some_iff.1 hu).1;rw[flatten_cons,getElem?_append_left (by omega),Nat.zero_mul,Nat.zero_add];exact hu
  | succ i=>
   have:=ih (λr hr=>hn r (by simp[hr])) i r (by simpa using hi) j u hu;rw[flatten_cons,getElem?_append_right (by rw[hx,Nat.succ_mul];omega),hx,show(i+1)*n+j-n=i*n+j by rw[Nat.succ_mul];omega];exact this
theorem TC {T:TypeId} {n:Nat} {A:Option Addr} {m c:Nat} {rs:List (List Value)} (hm:rs.length=m) (hn:∀r∈rs,r.length=n) (ho:w.ownsRow 0 T n (V A m c) m rs.flatten):DF Cg w n A rs:=by
 rcases ho.2 with⟨a,e⟩ | ⟨g,cap,b,a,hb,hg,hc,d,hs,ht⟩
 ·have:rs=[]:=eq_nil_of_length_eq_zero (hm.trans e);subst this
  cases a
  exact .inl rfl
 cases a
 refine .inr ⟨g,0,rfl,trivial,(Array.getElem?_eq_some_iff.1 hg).1,λi r hi j u hu=>?_⟩;have a:=Yz hn i r hi j u hu;rw[<-ht,getElem?_take]at a
 split at a
 ·have h2:b[i*n+j]?=some u:=by rw[<-Array.getElem?_toList];exact a
  rw[show(0+i*n+j)=i*n+j by omega];simp[World.cell?,hg,h2]
 cases a
theorem AY.rows {α:Type} {T:TypeId} {n:Nat} {a:α->List Value->Prop} {A:Option Addr} {c:Nat} {l:List α} (hn:∀e r,a e r->r.length=n) (h:AY b w L) (i:Nat) (hi:L[i]?=some (Th.row T n a A c l)):∃rs,Dh a l rs/\DF Cg w n A rs:=by obtain⟨rs,hr,ho⟩:(Th.row T n a A c l).P w:=h.all i _ hi;exact⟨rs,hr,TC (GW hr) (Jp hn hr) ho⟩
theorem AY.rowsF {α:Type} {T:TypeId} {n:Nat} {f:α->List Value} {A:Option Addr} {c:Nat} {l:List α} (hn:∀e,(f e).length=n) (h:AY b w L) (i:Nat) (hi:L[i]?=some (Th.row T n (λe r=>r=f e) A c l)):Cn n f w A l:=by obtain⟨rs,hr,hs⟩:=h.rows (λe r hr=>hr ▸ hn e) i hi;rw[JW hr]at hs;exact hs
end
section
variable {P:Program} {fi:FuncId} {R:Ending->World->Prop}
theorem CD {α:Type} {T:TypeId} {n:Nat} {rel:α->List Value->Prop} {b:Nat} {A:Option Addr} {c:Nat} {l:List α} {L:List Th} {w:World} {k:Nat} {td:List Item} {E:Nat->Value} (H:AY b w L) (i:Nat) (hi:L[i]?=some (Th.row T n rel A c l)) (e:α) (row:List Value) (hrel:rel e row) (g:Nat)
  (hgood:Ax.good w ⟨g,0,row,T,true⟩) (o:Oper) (hc:GP k E td=some o) (s x:Operand) (t:TypeId) (ho:o.op=.call { callee:=.builtin .append,args:=#[s,x],argTypes:=#[t,t] })
  (ht:P.underlying t=some (.slice T)) (hinfo:(P.info? T).map (λi=>(i.zero.map (·.cells.size),i.size,Nat.ble i.bytes 1024))=some (some n,n,true)) (hsz:0<n)
  (hs:BK k E s=.slice A l.length c) (hx:BK k E x=.slice (some ⟨g,0,none⟩) 1 1) (hn:row.length=n) (h1:row.all (·.oneCell')=true) (hlen:l.length+1<=100000000000)
  (hk:∀A' c' w',AY b w' (L.set i (Th.row T n rel A' c' (l++[e])))->Below b w w'->At P fi R (AD td) (Fr k (A8 E o.dst (.slice A' (l++[e]).length c'))) w'):At P fi R td (Fr k E) w:=by
 obtain⟨rs,hrs,hP⟩:(Th.row T n rel A c l).P w:=H.all i _ hi;obtain⟨inf,hin,z,hz,hzs,hsize,hby⟩:∃inf,P.info? T=some inf/\∃z,inf.zero=some z/\z.cells.size=n/\inf.size=n/\inf.bytes<=1024:=by
  cases hi:P.info? T with
  | none=>rw[hi]at hinfo;cases hinfo
  | some inf=>
   rw[hi]at hinfo;simp only[Option.map_some,Option.some.injEq,Prod.mk.injEq,Option.map_eq_some_iff]at hinfo;obtain⟨⟨z,h1,h2⟩,h3,h4⟩:=hinfo;exact⟨inf,rfl,z,h1,h2,h3,Nat.le_of_ble_eq_true h4⟩
 have h63:l.length+1<=maxLen:=by unfold maxLen;omega
 have hbytes:(l.length+1)*inf.bytes<=140737488355328:=Nat.le_trans (Nat.mul_le_mul hlen hby) (by decide);have hnews:∀j u,row[j]?=some u->w.cell? ((⟨g,0,none⟩:Addr).add j)=some u:=λj u hu=>by
  have hadd:(⟨g,0,none⟩:Addr).add j=⟨g,j,none⟩:=by
   unfold Addr.add
   split
   ·rename_i hj;rw[hj]
   simp
  rw[hadd];exact FI hgood hu rfl (by show j=0+j;omega) rfl
 obtain⟨v',w',hr,h2,h3,_,h5⟩:=run_append_own_at (P:=P) (w:=w) 0 t o.type T inf z n inf.bytes ht hin hz hsize rfl hzs hsz _ _ _ hP ⟨g,0,none⟩ 1 1 row (by rw[hn,Nat.one_mul]) hnews (λu hu=>all_eq_true.1 h1 u hu) h63 hbytes (Nat.zero_le _);have hv:∃g' c',v'=.slice (some ⟨g',0,none⟩) (l.length+1) c':=by
  rcases h2.2 with⟨_,h0⟩ | ⟨g',cap,cur,rfl,_⟩
  ·omega
  exact⟨g',cap,rfl⟩
 obtain⟨g',c',rfl⟩:=hv;have hrow:(Th.row T n rel (some ⟨g',0,none⟩) c' (l++[e])).P w':=⟨rs++[row],Np hrel hrs,by rw[length_append,length_singleton,flatten_append];simpa using h2⟩
 have hF:∀q,(Th.row T n rel (some ⟨g',0,none⟩) c' (l++[e])).F q->q<w'.heap.size/\((Th.row T n rel A c l).F q\/w.heap.size<=q):=λq (hq:some (⟨g',0,none⟩:Addr)=some ⟨q,0,none⟩)=>by
  obtain rfl:g'=q:=by injection hq with hq;injection hq
  refine⟨(KP h2 (g:=g') rfl).2,?_⟩;rcases h5 with h5 | h5
  ·exact .inl (DC hP (h5.symm.trans rfl)).1
  right;have:g'=w.heap.size:=Option.some.inj (show some g'=some w.heap.size from h5);omega
 have hkeep:∀q,q<w.heap.size->¬(Th.row T n rel A c l).F q->w'.heap[q]?=w.heap[q]?:=λq hq hnf=>h3.block q hq λhe=>hnf (DC hP he.symm).1;have H':AY b w' (L.set i (Th.row T n rel (some ⟨g',0,none⟩) c' (l++[e]))):=H.set i hi h3.size hrow hF hkeep;have hB:Below b w w':=⟨h3.os,h3.tape,h3.output,h3.size,λq hq=>h3.block q (Nat.lt_of_lt_of_le hq H.base) λhe=>by have:=(H.lo i _ hi q (DC hP he.symm).1).1;omega⟩
 unfold GP at hc
 split at hc
 ·rename_i ops i' r k'
  split at hc
  ·rename_i o' ho'
   split at hc
   ·rename_i hw
    obtain rfl:=Option.some.inj hc;refine GC ho' (by rw[Fi];exact hw) ?_;unfold Oper.wp execOp;rw[D8];simp only[ho,resolve,invoke,builtin,Sem.run_bind,Sem.run_pure,Result.andThen_ok,map_toArray,map_cons,map_nil,hs,hx,hr];show wpOps P ops _ r ((Fr k E).put o'.dst (.slice (some ⟨g',0,none⟩) (l.length+1) c')) w';rw[Eo];have:=hk _ _ w' H' hB;rw[length_append,length_singleton]at this;exact this
   cases hc
  cases hc
 cases hc
end
end Go.Proofs.YtkpemkkbjfbmaaaGreat

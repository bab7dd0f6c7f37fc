/- Contracts of functions, part 6. -/
import Derived.Test.YtkpemkkbjfbmaaaGreatMc05
import Derived.Laws.Append
import Derived.OwnWalk
set_option linter.all false
namespace Go.Proofs.YtkpemkkbjfbmaaaGreat
open List
noncomputable section
open Go.RowKit
set_option maxRecDepth 100000
set_option maxHeartbeats 1000000
attribute [local irreducible] BI BQ AD AE AG Au Ab AO A8 Bi Ct BO At Fr
def EQ (p0:Int):Bool:=cond (decide (-3<=p0)) (decide (p0<=3)) (false)
noncomputable def nJ:Code:=Tryz.f168.body.getD .skip
def zp:=Ac 1 ([.code nJ])
def AGt:=Ω zp
theorem Ko (b:Int) (w:World):Calls Tryz.prog 168 ([J b]:List Value).toArray w λe w'=>e=.returned (I (EQ b))/\Below (U w) w w':=by refine AS (fn:=Tryz.f168) (c:=nJ) (n:=9) ?_;have h:=Wk.start w;refine Al 1 zp h [] λk d=>?_;refine Ap d [] [] d.G (λl a=>by cases a) λj m g=>?_;refine AC AGt g [] λi f=>?_;exact AQ f (0,0) _ (by unfold EQ;rfl)
def Gk (p0a:Int) (p0b:Int) (p0c:Int):Bool:=cond (cond (EQ p0a) (EQ p0b) (false)) (EQ p0c) (false)
noncomputable def nG:Code:=Tryz.f166.body.getD .skip
def zn:=Ac 1 ([.code nG])
def AGo:=Ω zn
theorem MY (a b d:Int) (w:World):Calls Tryz.prog 166 ([D [J a,J b,J d]]:List Value).toArray w λe w'=>e=.returned (I (Gk a b d))/\Below (U w) w w':=by
 refine AS (fn:=Tryz.f166) (c:=nG) (n:=16) ?_;have j:=Wk.start w;refine Bg 1 zn [N (U w) [J a,J b,J d] 63] j [] λm g=>?_;refine Ap g [(1,0,0),(5,0,1),(10,0,2)] [⟨2,[(4,J a)],I (EQ a),true⟩,⟨6,[(8,J b)],I (EQ b),((EQ a))&&(true)⟩,⟨11,[(13,J d)],I (EQ d),((cond (EQ a) (EQ b) (false)))&&(true)⟩] g.G (λo f=>?_) λl p i=>?_
 ·simp only[mem_cons,not_mem_nil,or_false]at f;rcases f with rfl | rfl | rfl
  ·exact AU 168 [.tmp 4] _ (λ_=>by kernel_rfl) λhc u hu=>AR hu (Ko a u)
  ·exact AU 168 [.tmp 8] _ (λ_=>by kernel_rfl) λhc u hu=>AR hu (Ko b u)
  exact AU 168 [.tmp 13] _ (λ_=>by kernel_rfl) λhc u hu=>AR hu (Ko d u)
 refine AC AGo i [] λk h=>?_;exact AQ h (0,0) _ (by unfold Gk;rfl)
def Hp (p0a:Int) (p0b:Int) (p0c:Int) (p1a:Int) (p1b:Int) (p1c:Int) (p2:Int):Int×Int×Int×Int:=cond (cond (!(Gk p0a p0b p0c)) (true) (!(Gk p1a p1b p1c))) ((0,0,0,1)) (cond (!(Gk (IntKind.i64.wrap (p0a+(IntKind.i64.wrap (p2*p1a)))) (IntKind.i64.wrap (p0b+(IntKind.i64.wrap (p2*p1b)))) (IntKind.i64.wrap (p0c+(IntKind.i64.wrap (p2*p1c)))))) ((0,0,0,10)) ((IntKind.i64.wrap (p0a+(IntKind.i64.wrap (p2*p1a))),IntKind.i64.wrap (p0b+(IntKind.i64.wrap (p2*p1b))),IntKind.i64.wrap (p0c+(IntKind.i64.wrap (p2*p1c))),0)))
def OJ (r:Int×Int×Int×Int):Value:=.tuple #[D [J (r.1),J (r.2.1),J (r.2.2.1)],J (r.2.2.2)]
noncomputable def nU:Code:=Tryz.f160.body.getD .skip
def AAC:=Ac 1 ([.code nU])
def pL:=Ω AAC
def AHE:=Θ pL
def AAB:=Ξ pL
def pK:=Ψ AAB
def AHD:=Θ pK
def AHC:=Ξ pK
theorem PN (d b a h g f i:Int) (w:World):Calls Tryz.prog 160 ([D [J d,J b,J a],D [J h,J g,J f],J i]:List Value).toArray w λe w'=>e=.returned (OJ (Hp d b a h g f i))/\Below (U w) w w':=by
 refine AS (fn:=Tryz.f160) (c:=nU) (n:=45) ?_;have K1:=Wk.start w;refine Bg 1 AAC [N (U w) [J d,J b,J a] 63,N (U w+1) [J h,J g,J f] 63,N (U w+2) [J 0,J 0,J 0] 63] K1 [] λw1 q=>?_;refine Ap q [(0,0,0),(4,1,0)] [⟨1,[(9,D [J d,J b,J a])],I (Gk d b a),true⟩,⟨5,[(13,D [J h,J g,J f])],I (Gk h g f),(!(!(Gk d b a)))&&(true)⟩] q.G (λsp j=>?_) λw2 E2 K3=>?_
 ·simp only[mem_cons,not_mem_nil,or_false]at j;rcases j with rfl | rfl
  ·exact AU 166 [.tmp 9] _ (λ_=>by kernel_rfl) λhc u hu=>AR hu (MY d b a u)
  exact AU 166 [.tmp 13] _ (λ_=>by kernel_rfl) λhc u hu=>AR hu (MY h g f u)
 refine AC pL K3 [] λw3 p=>?_;refine AH (cond (!(Gk d b a)) (true) (!(Gk h g f))) (λk=>?_) (λk=>?_)
 ·refine AC AHE p [(2,0)] λw5 z=>?_;exact AQ z (2,0) _ (by unfold Hp;rw[k]<;>rfl)
 refine Ar AAB p [(0,0),(1,0),(0,1),(1,1),(0,2),(1,2),(3,0),(3,0)] λr y=>?_;refine AW y (MY (IntKind.i64.wrap (d+(IntKind.i64.wrap (i*h)))) (IntKind.i64.wrap (b+(IntKind.i64.wrap (i*g)))) (IntKind.i64.wrap (a+(IntKind.i64.wrap (i*f)))) r) λw7 x=>?_;refine AC pK x [] λw8 o=>?_;refine AH (!(Gk (IntKind.i64.wrap (d+(IntKind.i64.wrap (i*h)))) (IntKind.i64.wrap (b+(IntKind.i64.wrap (i*g)))) (IntKind.i64.wrap (a+(IntKind.i64.wrap (i*f)))))) (λl=>?_) (λl=>?_)
 ·refine AC AHD o [(2,0)] λt v=>?_;exact AQ v (2,0) _ (by unfold Hp;rw[k,l]<;>rfl)
 refine Ar AHC o [(3,0),(2,0)] λs m=>?_;exact AQ m (2,0) _ (by unfold Hp;rw[k,l]<;>rfl)
def Lu (p0a:Int) (p0b:Int) (p0c:Int) (p1a:Int) (p1b:Int) (p1c:Int):Int×Int×Int×Int:=Hp p0a p0b p0c p1a p1b p1c 1
def AGI (r:Int×Int×Int×Int):Value:=.tuple #[D [J (r.1),J (r.2.1),J (r.2.2.1)],J (r.2.2.2)]
noncomputable def nP:Code:=Tryz.f146.body.getD .skip
def zw:=ν ([.code nP])
def AG1:=Ψ zw
theorem oh (h g f d b a:Int) (w:World):Calls Tryz.prog 146 ([D [J h,J g,J f],D [J d,J b,J a]]:List Value).toArray w λe w'=>e=.returned (AGI (Lu h g f d b a))/\Below (U w) w w':=by refine AS (fn:=Tryz.f146) (c:=nP) (n:=11) ?_;have m:=Wk.start w;refine Ar zw m [(0,0),(1,0)] λi l=>?_;refine AW l (PN h g f d b a 1 i) λp k=>?_;refine Ar AG1 k [(2,0)] λo j=>?_;exact AQ j (2,0) _ (by unfold Lu;rfl)
def Lz (p0a:Int) (p0b:Int) (p0c:Int) (p1a:Int) (p1b:Int) (p1c:Int):Int×Int×Int×Int:=Hp p0a p0b p0c p1a p1b p1c (-1)
def AGS (r:Int×Int×Int×Int):Value:=.tuple #[D [J (r.1),J (r.2.1),J (r.2.2.1)],J (r.2.2.2)]
noncomputable def nT:Code:=Tryz.f147.body.getD .skip
def AAA:=ν ([.code nT])
def AHB:=Ψ AAA
theorem ol (h g f d b a:Int) (w:World):Calls Tryz.prog 147 ([D [J h,J g,J f],D [J d,J b,J a]]:List Value).toArray w λe w'=>e=.returned (AGS (Lz h g f d b a))/\Below (U w) w w':=by refine AS (fn:=Tryz.f147) (c:=nT) (n:=11) ?_;have m:=Wk.start w;refine Ar AAA m [(0,0),(1,0)] λi l=>?_;refine AW l (PN h g f d b a (-1) i) λp k=>?_;refine Ar AHB k [(2,0)] λo j=>?_;exact AQ j (2,0) _ (by unfold Lz;rfl)
def Ae (p0a:Bool) (p0ba:Int) (p0bb:Int) (p0bc:Int) (p1:Int):Bool×Int×Int×Int×Int:=cond (!(p1==0)) ((false,0,0,0,p1)) ((p0a,p0ba,p0bb,p0bc,0))
def CJ (r:Bool×Int×Int×Int×Int):Value:=.tuple #[D [I (r.1),J (r.2.1),J (r.2.2.1),J (r.2.2.2.1)],J (r.2.2.2.2)]
noncomputable def nH:Code:=Tryz.f137.body.getD .skip
def o4:=ν ([.code nH])
def AGq:=Θ o4
def AGp:=Ξ o4
theorem Dd (f:Bool) (d b a p1:Int) (w:World):Calls Tryz.prog 137 ([D [I f,J d,J b,J a],J p1]:List Value).toArray w λe w'=>e=.returned (CJ (Ae f d b a p1))/\Below (U w) w w':=by
 refine AS (fn:=Tryz.f137) (c:=nH) (n:=11) ?_;have k:=Wk.start w;refine Ar o4 k [] λo h=>?_;refine AH (!(p1==0)) (λg=>?_) (λg=>?_)
 ·refine AC AGq h [(1,0)] λm j=>?_;exact AQ j (1,0) _ (by unfold Ae;rw[g]<;>rfl)
 refine Ar AGp h [(0,0),(1,0)] λl i=>?_;exact AQ i (1,0) _ (by unfold Ae;rw[g]<;>rfl)
def Dj (p0a:Bool) (p0ba:Int) (p0bb:Int) (p0bc:Int) (p1a:Int) (p1b:Int) (p1c:Int):Int:=cond (p0a) (9) (cond (!((p0ba==p1a)&&((p0bb==p1b)&&(p0bc==p1c)))) (10) (0))
noncomputable def nS:Code:=Tryz.f136.body.getD .skip
def pJ:=ν ([.code nS])
def AHA:=Θ pJ
def z8:=Ac 3 (AG pJ)
def pI:=Ω z8
def AG9:=Θ pI
def AG8:=Ξ pI
theorem LH (l:Bool) (g f d j i h:Int) (w:World):Calls Tryz.prog 136 ([D [I l,J g,J f,J d],D [J j,J i,J h]]:List Value).toArray w λe w'=>e=.returned (J (Dj l g f d j i h))/\Below (U w) w w':=by
 refine AS (fn:=Tryz.f136) (c:=nS) (n:=11) ?_;have z:=Wk.start w;refine An pJ [N (U w) [I l,J g,J f,J d] 65,N (U w+1) [J j,J i,J h] 63] z [(0,0)] λw1 s=>?_;refine AH (l) (λm=>?_) (λm=>?_)
 ·refine AC AHA s [] λw3 y=>?_;exact AQ y (0,0) _ (by unfold Dj;rw[m]<;>rfl)
 refine Al 3 z8 s [] λw4 r=>?_;refine Ap r [(1,0,1),(2,1,0)] [⟨3,[(8,D [J g,J f,J d]),(9,D [J j,J i,J h])],I (!((g==j)&&((f==i)&&(d==h)))),true⟩] r.G (λsp o=>?_) λw5 E5 x=>?_
 ·rw[mem_singleton.1 o];exact BR λ_ E u _=>DS (k:=.neq) (T:=63) (a:=D [J g,J f,J d]) (b:=D [J j,J i,J h]) (MA u g f d j i h)
 refine AC pI x [] λw6 q=>?_;refine AH (!((g==j)&&((f==i)&&(d==h)))) (λp=>?_) (λp=>?_)
 ·refine AC AG9 q [] λw8 v=>?_;exact AQ v (0,0) _ (by unfold Dj;rw[m,p]<;>rfl)
 refine AC AG8 q [] λw9 t=>?_;exact AQ t (0,0) _ (by unfold Dj;rw[m,p]<;>rfl)
def BP (p0a:Bool) (p0ba:Int) (p0bb:Int) (p0bc:Int) (p1a:Bool) (p1ba:Int) (p1bb:Int) (p1bc:Int):Int:=cond (p0a) (9) (Dj p1a p1ba p1bb p1bc p0ba p0bb p0bc)
noncomputable def nI:Code:=Tryz.f138.body.getD .skip
def o5:=ν ([.code nI])
def AGs:=Θ o5
def zo:=Ξ o5
def AGr:=Ψ zo
theorem Fv (j:Bool) (h g f:Int) (i:Bool) (d b a:Int) (w:World):Calls Tryz.prog 138 ([D [I j,J h,J g,J f],D [I i,J d,J b,J a]]:List Value).toArray w λe w'=>e=.returned (J (BP j h g f i d b a))/\Below (U w) w w':=by
 refine AS (fn:=Tryz.f138) (c:=nI) (n:=11) ?_;have s:=Wk.start w;refine Ar o5 s [(0,0)] λx l=>?_;refine AH (j) (λk=>?_) (λk=>?_)
 ·refine AC AGs l [] λv r=>?_;exact AQ r (0,0) _ (by unfold BP;rw[k]<;>rfl)
 refine AC zo l [(1,0),(0,1)] λm q=>?_;refine AW q (LH i d b a h g f m) λu p=>?_;refine AC AGr p [] λt o=>?_;exact AQ o (0,0) _ (by unfold BP;rw[k]<;>rfl)
def Gt (p0a:Bool) (p0ba:Int) (p0bb:Int) (p0bc:Int) (p1a:Bool) (p1ba:Int) (p1bb:Int) (p1bc:Int):Int:=cond (cond (p0a) (p1a) (false)) (0) (BP p0a p0ba p0bb p0bc p1a p1ba p1bb p1bc)
noncomputable def nW:Code:=Tryz.f140.body.getD .skip
def AAG:=Ac 1 ([.code nW])
def pN:=Ω AAG
def AHI:=Θ pN
def AAF:=Ξ pN
def AHH:=Ψ AAF
theorem TY (j:Bool) (h g f:Int) (i:Bool) (d b a:Int) (w:World):Calls Tryz.prog 140 ([D [I j,J h,J g,J f],D [I i,J d,J b,J a]]:List Value).toArray w λe w'=>e=.returned (J (Gt j h g f i d b a))/\Below (U w) w w':=by
 refine AS (fn:=Tryz.f140) (c:=nW) (n:=14) ?_;have v:=Wk.start w;refine Bg 1 AAG [N (U w) [I j,J h,J g,J f] 65,N (U w+1) [I i,J d,J b,J a] 65] v [] λw1 o=>?_;refine Ap o [(1,0,0),(4,1,0)] [] o.G (λsp k=>by cases k) λw2 E2 u=>?_;refine AC pN u [] λw3 m=>?_;refine AH (cond (j) (i) (false)) (λl=>?_) (λl=>?_)
 ·refine AC AHI m [] λz t=>?_;exact AQ t (0,0) _ (by unfold Gt;rw[l]<;>rfl)
 refine AC AAF m [(0,0),(1,0)] λp s=>?_;refine AW s (Fv j h g f i d b a p) λy r=>?_;refine AC AHH r [] λx q=>?_;exact AQ q (0,0) _ (by unfold Gt;rw[l]<;>rfl)
def Gu (p0a:Bool) (p0ba:Int) (p0bb:Int) (p0bc:Int) (p1a:Bool) (p1ba:Int) (p1bb:Int) (p1bc:Int):Int:=cond (!(p0a==p1a)) (9) (cond (cond (!(p0a)) (!((p0ba==p1ba)&&((p0bb==p1bb)&&(p0bc==p1bc)))) (false)) (10) (0))
noncomputable def nQ:Code:=Tryz.f85.body.getD .skip
def pF:=ν ([.code nQ])
def AG4:=Θ pF
def zx:=Ac 3 (AG pF)
def pE:=Ω zx
def AG3:=Θ pE
def AG2:=Ξ pE
theorem TZ (l:Bool) (j i h:Int) (m:Bool) (g f d:Int) (w:World):Calls Tryz.prog 85 ([D [I l,J j,J i,J h],D [I m,J g,J f,J d]]:List Value).toArray w λe w'=>e=.returned (J (Gu l j i h m g f d))/\Below (U w) w w':=by
 refine AS (fn:=Tryz.f85) (c:=nQ) (n:=20) ?_;have K1:=Wk.start w;refine An pF [N (U w) [I l,J j,J i,J h] 65,N (U w+1) [I m,J g,J f,J d] 65] K1 [(0,0),(1,0)] λw1 t=>?_;refine AH (!(l==m)) (λo=>?_) (λo=>?_)
 ·refine AC AG4 t [] λw3 z=>?_;exact AQ z (0,0) _ (by unfold Gu;rw[o]<;>rfl)
 refine Al 3 zx t [] λw4 s=>?_;refine Ap s [(1,0,0),(5,0,1),(7,1,1)] [⟨8,[(15,D [J j,J i,J h]),(17,D [J g,J f,J d])],I (!((j==g)&&((i==f)&&(h==d)))),((!(l)))&&(true)⟩] s.G (λsp p=>?_) λw5 E5 y=>?_
 ·rw[mem_singleton.1 p];exact BR λ_ E u _=>DS (k:=.neq) (T:=63) (a:=D [J j,J i,J h]) (b:=D [J g,J f,J d]) (MA u j i h g f d)
 refine AC pE y [] λw6 r=>?_;refine AH (cond (!(l)) (!((j==g)&&((i==f)&&(h==d)))) (false)) (λq=>?_) (λq=>?_)
 ·refine AC AG3 r [] λw8 x=>?_;exact AQ x (0,0) _ (by unfold Gu;rw[o,q]<;>rfl)
 refine AC AG2 r [] λw9 v=>?_;exact AQ v (0,0) _ (by unfold Gu;rw[o,q]<;>rfl)
def Am (p0a:Int) (p0ca:Bool) (p0cba:Int) (p0cbb:Int) (p0cbc:Int):Bool×Int×Int×Int:=cond (p0a==4) ((false,1,0,0)) ((p0ca,p0cba,p0cbb,p0cbc))
def Ed (r:Bool×Int×Int×Int):Value:=D [I (r.1),J (r.2.1),J (r.2.2.1),J (r.2.2.2)]
noncomputable def nN:Code:=Tryz.f83.body.getD .skip
def pC:=ν ([.code nN])
def AGy:=Θ pC
def AGx:=Ξ pC
theorem Jm (p:Int) (c0:List UInt8) (f:Bool) (d b a b0:Int) (z:Option Addr) (x y:Nat) (v o m l k j:Int) (u:List UInt8) (t s:Int) (i:Option Addr) (g h:Nat) (a0 r q:Int) (w:World):Calls Tryz.prog 83 ([D [J p,Y c0,I f,J d,J b,J a,J b0,V z x y,J v,J o,J m,J l,J k,J j,Y u,J t,J s,V i g h,J a0,J r,J q]]:List Value).toArray w λe w'=>e=.returned (Ed (Am p f d b a))/\Below (U w) w w':=by
 refine AS (fn:=Tryz.f83) (c:=nN) (n:=10) ?_;have K1:=Wk.start w;refine Ar pC K1 [(0,0)] λw1 K2=>?_;refine AH (p==4) (λc2=>?_) (λc2=>?_)
 ·refine Ar AGy K2 [(1,0)] λw3 K3=>?_;exact AQ K3 (1,0) _ (by unfold Am;rw[c2]<;>rfl)
 refine Ar AGx K2 [(0,2),(1,0)] λw4 K4=>?_;exact AQ K4 (1,0) _ (by unfold Am;rw[c2]<;>rfl)
end
end Go.Proofs.YtkpemkkbjfbmaaaGreat
namespace Go.Proofs.YtkpemkkbjfbmaaaGreat
open List
noncomputable section
open Go.RowKit
set_option maxRecDepth 100000
set_option maxHeartbeats 1000000
def Ex.op:Ex->Int | .mk a _ _ _ _ _ _ _ _ _=>a
def Ex.num:Ex->Int | .mk _ a _ _ _ _ _ _ _ _=>a
def Ex.den:Ex->Int | .mk _ _ a _ _ _ _ _ _ _=>a
def Ex.mu:Ex->Int | .mk _ _ _ a _ _ _ _ _ _=>a
def Ex.hu:Ex->Int | .mk _ _ _ _ a _ _ _ _ _=>a
def Ex.du:Ex->Int | .mk _ _ _ _ _ a _ _ _ _=>a
def Ex.nm:Ex->List UInt8 | .mk _ _ _ _ _ _ a _ _ _=>a
def Ex.cnt:Ex->Int | .mk _ _ _ _ _ _ _ a _ _=>a
def Ex.md:Ex->Int | .mk _ _ _ _ _ _ _ _ a _=>a
def Ex.ks:Ex->List Ex | .mk _ _ _ _ _ _ _ _ _ a=>a
abbrev Ad (x:Ex) (A:Option Addr) (c:Nat):List Value:=[J x.op,J x.num,J x.den,J x.mu,J x.hu,J x.du,Y (x.nm),J x.cnt,J x.md,V A x.ks.length c]
abbrev CL (d:Df) (A1:Option Addr) (c1:Nat) (A2:Option Addr) (c2:Nat):List Value:=[J d.kind,Y (d.name),I d.tb,J d.tm,J d.th,J d.td,J d.frm,V A1 d.ents.length c1,J d.body.op,J d.body.num,J d.body.den,J d.body.mu,J d.body.hu,J d.body.du,Y (d.body.nm),J d.body.cnt,J d.body.md,V A2 d.body.ks.length c2,J d.mode,J d.num,J d.den]
def Cn {α:Type} (n:Nat) (f:α->List Value) (w:World) (A:Option Addr) (es:List α):Prop:=DF Cg w n A (es.map f)
def rowsEx (w:World) (A:Option Addr) (es:List Ex):Prop:=∃ks,Fb Cg w es ks/\DF Cg w 10 A ks
def rowsDf (w:World) (A:Option Addr) (ds:List Df):Prop:=∃rs,FB Cg w ds rs/\DF Cg w 21 A rs
abbrev IR (e:Int×Int×Int):List Value:=[J e.1,J e.2.1,J e.2.2]
abbrev BE (e:Bool×Int×Int×Int):List Value:=[I e.1,J e.2.1,J e.2.2.1,J e.2.2.2]
abbrev FG (e:List UInt8):List Value:=[Y e]
abbrev KD (e:Int):List Value:=[J e]
abbrev Dl:=Cn 3 IR
abbrev l8:=Cn 4 BE
abbrev rowsStr:=Cn 1 FG
abbrev rowsInt:=Cn 1 KD
theorem Cn.below {α:Type} {n:Nat} {f:α->List Value} {w w':World} {A:Option Addr} {es:List α} (h:Cn n f w A es) (B:Below (U w) w w'):Cn n f w' A es:=DF.below h B
theorem rowsEx.below {w w':World} {A:Option Addr} {es:List Ex} (h:rowsEx w A es) (B:Below (U w) w w'):rowsEx w' A es:=let ⟨ks,h1,h2⟩:=h;⟨ks,h1.below B,h2.below B⟩
theorem rowsDf.below {w w':World} {A:Option Addr} {ds:List Df} (h:rowsDf w A ds) (B:Below (U w) w w'):rowsDf w' A ds:=let ⟨ks,h1,h2⟩:=h;⟨ks,h1.below B,h2.below B⟩
theorem Mc {w:World} {n:Nat} {A:Option Addr} {rs:List (List Value)} (h:DF Cg w n A rs) {i:Nat} {r:List Value} (hi:rs[i]?=some r):∃g off,A=some ⟨g,off,none⟩/\g<(U w)/\w.rangeAt g (off+i*n) r:=by
 rcases h with h | ⟨g,off,rfl,_,hg,hc⟩
 ·rw[h]at hi;simp at hi
 exact⟨g,off,rfl,hg,λj u hu=>hc i r hi j u hu⟩
theorem Cn.get {α:Type} {n:Nat} {f:α->List Value} {w:World} {A:Option Addr} {es:List α} (h:Cn n f w A es) {i:Nat} {e:α} (hi:es[i]?=some e):∃g off,A=some ⟨g,off,none⟩/\g<(U w)/\w.rangeAt g (off+i*n) (f e):=
 Mc h (by rw[getElem?_map,hi];rfl)
theorem gp {w:World} {x:Ex} {cs:List Value} (h:DD Cg w x cs):∃A c,cs=Ad x A c/\rowsEx w A x.ks:=by obtain⟨op,num,den,mu,hu,du,nm,cnt,md,a⟩:=x;unfold DD at h;obtain⟨A,c,ks,rfl,b,h2⟩:=h;exact⟨A,c,rfl,ks,b,h2⟩
theorem AGT {w:World} {x:Ex} {A:Option Addr} {c:Nat} (h:rowsEx w A x.ks):DD Cg w x (Ad x A c):=by obtain⟨op,num,den,mu,hu,du,nm,cnt,md,a⟩:=x;obtain⟨ks,b,h2⟩:=h;unfold DD;exact⟨A,c,ks,rfl,b,h2⟩
theorem wo {w:World} {d:Df} {cs:List Value} (h:Ff Cg w d cs):∃A1 c1 a b,cs=CL d A1 c1 a b/\Dl w A1 d.ents/\rowsEx w a d.body.ks:=by obtain⟨A,c,bs,hx,hr,rfl⟩:=h;obtain⟨a,b,rfl,h2⟩:=gp hx;exact⟨A,c,a,b,rfl,hr,h2⟩
theorem rowsEx.get {w:World} {A:Option Addr} {es:List Ex} (h:rowsEx w A es) {i:Nat} {e:Ex} (hi:es[i]?=some e):∃g off a b,A=some ⟨g,off,none⟩/\g<(U w)/\w.rangeAt g (off+i*10) (Ad e a b)/\rowsEx w a e.ks:=by obtain⟨ks,f,h2⟩:=h;obtain⟨r,hr,hx⟩:=NA f hi;obtain⟨a,b,rfl,d⟩:=gp hx;obtain⟨g,off,ha,hg,c⟩:=Mc h2 hr;exact⟨g,off,a,b,ha,hg,c,d⟩
theorem rowsDf.get {w:World} {A:Option Addr} {es:List Df} (h:rowsDf w A es) {i:Nat} {e:Df} (hi:es[i]?=some e):∃g off b d a c,A=some ⟨g,off,none⟩/\g<(U w)/\w.rangeAt g (off+i*21) (CL e b d a c)/\Dl w b e.ents/\rowsEx w a e.body.ks:=by obtain⟨ks,l,h2⟩:=h;obtain⟨r,hr,hx⟩:=NC l hi;obtain⟨b,d,a,c,rfl,k,j⟩:=wo hx;obtain⟨g,off,ha,hg,f⟩:=Mc h2 hr;exact⟨g,off,b,d,a,c,ha,hg,f,k,j⟩
theorem Aj {w w':World} {g o:Nat} {cs:List Value} (h:w.rangeAt g o cs) (hg:g<(U w)) (B:Below (U w) w w'):w'.rangeAt g o cs:=λj u hu=>(World.cell?_of_block (B.block g hg)).trans (h j u hu)
theorem Db {w:World} {b n:Nat} {t:TypeId} {rs:List (List Value)} (hn:∀r∈rs,r.length=n) (h:Ax.good w ⟨b,0,rs.flatten,t,true⟩):DF Cg w n (θ b) rs:=by
 refine .inr ⟨b,0,rfl,trivial,h.1,λi r hi j u hu=>?_⟩;have hl:∀(rs:List (List Value)) (i:Nat) (r:List Value),(∀r∈rs,r.length=n)->rs[i]?=some r->∀(j:Nat) u,r[j]?=some u->rs.flatten[i*n+j]?=some u:=by
  intro rs
  induction rs with
  | nil=>intro i r _ hi;simp at hi
  | cons x rs ih=>
   intro i r hn hi j u hu;have hx:=hn x (by simp)
   cases i with
   | zero=>
    simp at hi;subst hi;have a:j<x.length:=(List.getElem?_eq_some_iff.1 hu).1;rw[flatten_cons,getElem?_append_left (by omega),Nat.zero_mul,Nat.zero_add];exact hu
   | succ i=>
    have:=ih i r (λr hr=>hn r (by simp[hr])) (by simpa using hi) j u hu;rw[flatten_cons,getElem?_append_right (by rw[hx,Nat.succ_mul];omega),hx,show(i+1)*n+j-n=i*n+j by rw[Nat.succ_mul];omega];exact this
 exact FI h (hl rs i r hn hi j u hu) rfl (by show 0+i*n+j=0+(i*n+j);omega) rfl
abbrev ψ (d:Df) (a:Option Addr) (c:Nat) (b:Option Addr) (k:Nat):List Value:=[.int .i64 d.kind,.string ⟨⟨d.name⟩⟩,.bool d.tb,.int .i64 d.tm,.int .i64 d.th,.int .i64 d.td,.int .i64 d.frm,.slice a d.ents.length c,.int .i64 d.body.op,.int .i64 d.body.num,.int .i64 d.body.den,.int .i64 d.body.mu,.int .i64 d.body.hu,.int .i64 d.body.du,.string ⟨⟨d.body.nm⟩⟩,.int .i64 d.body.cnt,.int .i64 d.body.md,.slice b d.body.ks.length k,.int .i64 d.mode,.int .i64 d.num,.int .i64 d.den]
abbrev ω (d:Ex) (b:Option Addr) (k:Nat):List Value:=[.int .i64 d.op,.int .i64 d.num,.int .i64 d.den,.int .i64 d.mu,.int .i64 d.hu,.int .i64 d.du,.string ⟨⟨d.nm⟩⟩,.int .i64 d.cnt,.int .i64 d.md,.slice b d.ks.length k]
instance:Inhabited Ex:=⟨.mk 0 0 0 0 0 0 [] 0 0 []⟩
instance:Inhabited Df:=⟨⟨0,[],false,0,0,0,0,[],default,0,0,0⟩⟩
theorem getD_some {α:Type} {l:List α} {i:Nat} (d:α) (h:i<l.length):l[i]?=some (l.getD i d):=by rw[getD_eq_getElem?_getD,getElem?_eq_getElem h];rfl
theorem Cn.all {α:Type} {n:Nat} {f:α->List Value} {w:World} {A:Option Addr} {es:List α} (h:Cn n f w A es) (a:0<es.length):∃g off,A=some ⟨g,off,none⟩/\g<(U w)/\∀(i:Nat) e,es[i]?=some e->w.rangeAt g (off+i*n) (f e):=by
 rcases h with h | ⟨g,off,rfl,_,hg,hc⟩
 ·have:=congrArg length h;simp at this;rw[this]at a;exact absurd a (Nat.lt_irrefl _)
 exact⟨g,off,rfl,hg,λi e hi j u hu=>hc i _ (by rw[getElem?_map,hi];rfl) j u hu⟩
theorem Xv {S:Nat->Prop} {w:World}:∀ {ds:List Df} {rs:List (List Value)},FB S w ds rs->rs.length=ds.length
 | [],_,h=>by unfold FB at h;rw[h];rfl
 | d::ds,rs,h=>by unfold FB at h;obtain⟨c,cs,rfl,_,h2⟩:=h;simp[Xv h2]
theorem rowsDf.all {w:World} {A:Option Addr} {es:List Df} (h:rowsDf w A es) (a:0<es.length):∃g off,A=some ⟨g,off,none⟩/\g<(U w)/\∀(i:Nat) e,es[i]?=some e->∃c f b d,w.rangeAt g (off+i*21) (CL e c f b d)/\Dl w c e.ents/\rowsEx w b e.body.ks:=by
 obtain⟨ks,k,h2⟩:=h;rcases h2 with h2 | ⟨g,off,rfl,_,hg,hc⟩
 ·rw[<-Xv k,h2]at a;exact absurd a (Nat.lt_irrefl _)
 refine⟨g,off,rfl,hg,λi e hi=>?_⟩;obtain⟨r,hr,hx⟩:=NC k hi;obtain⟨c,f,b,d,rfl,m,l⟩:=wo hx;exact⟨c,f,b,d,λj u hu=>hc i _ hr j u hu,m,l⟩
def Oc (T:TypeId):Op->Bool
 | .load t _=>t==T
 | _=>false
theorem KO {w:World} {g o:Nat} {cs:List Value} (h:w.rangeAt g o cs) (k:Nat) (a:List Value) (hc:(cs.drop k).take a.length=a):w.rangeAt g (o+k) a:=λj u hu=>by
 have b:cs[k+j]?=some u:=by
  rw[<-hc,getElem?_take]at hu
  split at hu
  ·rw[getElem?_drop]at hu;exact hu
  cases hu
 have:=h (k+j) u b;rw[<-Nat.add_assoc]at this;exact this
theorem II {M:List Ax} {x:Ax} {w:World} (H:∀e∈M,e.good w) (h:x.good w):∀e∈M++[x],e.good w:=λe he=>by
 rcases mem_append.1 he with a | a
 ·exact H e a
 rw[mem_singleton.1 a];exact h
theorem KP {w:World} {base:Nat} {e:TypeId} {size:Nat} {v:Value} {n:Nat} {xs:List Value} (h:w.ownsRow base e size v n xs) {g:Nat} (hg:v.ownBlock=some g):base<=g/\g<(U w):=by
 rcases h.2 with⟨rfl,_⟩ | ⟨c,cap,b,rfl,a,hr⟩
 ·simp[Value.ownBlock]at hg
 simp[Value.ownBlock]at hg;subst hg;exact⟨a,MJ hr.1⟩
structure KH {α:Type} (T:TypeId) (n:Nat) (f:α->List Value) (base top:Nat) (v:Value) (l:List α) (w:World):Prop where
 own:w.ownsRow base T n v l.length (l.flatMap f)
 blk:∀g,v.ownBlock=some g->base<=g/\g<top
 top:top<=(U w)
section
variable {α:Type} {T:TypeId} {n:Nat} {f:α->List Value} {base top:Nat} {v:Value} {l:List α} {w w':World}
theorem KH.nil (w:World):KH T n f (U w) (U w) (V none 0 0) ([]:List α) w:=
 ⟨⟨by simp,.inl ⟨rfl,rfl⟩⟩,λg h=>by simp[Value.ownBlock]at h,Nat.le_refl _⟩
theorem KH.keep (h:KH T n f base top v l w) {O:List Nat} (a:FN O (U w) w w') (b:∀k∈O,k<base\/top<=k):KH T n f base top v l w':=by refine⟨Nu h.own λg hg=>?_,h.blk,Nat.le_trans h.top a.size⟩;have hb:=h.blk g hg;have ht:=h.top;exact a.block g (by omega) λhm=>by have:=b g hm;omega
theorem KH.below (h:KH T n f base top v l w) (a:Below (U w) w w'):KH T n f base top v l w':=by refine⟨Nu h.own λg hg=>?_,h.blk,Nat.le_trans h.top a.size⟩;have hb:=h.blk g hg;have ht:=h.top;exact a.block g (by omega)
theorem KH.goods (h:KH T n f base top v l w) (hg:w.grownBy w' v.ownBlock) {M:List Ax} (g:∀e∈M,e.good w) (d:∀k∈M.map (·.id),k<base\/top<=k):∀e∈M,e.good w':=λe he=>by
 have a:=g e he;have b:w'.heap[e.id]?=w.heap[e.id]?:=hg.block e.id a.1 λc=>by have h2:=h.blk e.id c.symm;have i:=d e.id (mem_map.2 ⟨e,he,rfl⟩);omega
 refine⟨Nat.lt_of_lt_of_le a.1 hg.size,?_⟩;have h2:=a.2
 split at h2
 ·rename_i ho;rw[if_pos ho,b];exact h2
 rename_i ho
 rw[if_neg ho];intro j u hu;rw[World.cell?_of_block (w:=w) b];exact h2 j u hu
theorem Y0 {xs:List α} (hn:∀e,(f e).length=n):∀(i:Nat) (e:α),xs[i]?=some e->∀(j:Nat) u,(f e)[j]?=some u->(xs.flatMap f)[i*n+j]?=some u:=by
 induction xs with
 | nil=>intro i e hi;simp at hi
 | cons x xs ih=>
  intro i e hi j u hu
  cases i with
  | zero=>
   simp at hi;subst hi;have a:j<(f x).length:=(List.getElem?_eq_some_iff.1 hu).1;rw[flatMap_cons,getElem?_append_left (by omega),Nat.zero_mul,Nat.zero_add];exact hu
  | succ i=>
   have:=ih i e (by simpa using hi) j u hu;rw[flatMap_cons,getElem?_append_right (by rw[hn,Nat.succ_mul];omega),hn,show(i+1)*n+j-n=i*n+j by rw[Nat.succ_mul];omega];exact this
theorem KH.rows (hn:∀e,(f e).length=n) (h:KH T n f base top v l w):∃A c,v=V A l.length c/\Cn n f w A l:=by
 rcases h.own.2 with⟨rfl,d⟩ | ⟨g,cap,b,rfl,hb,hg,hc,hm,hs,ht⟩
 ·have:l=[]:=eq_nil_of_length_eq_zero d;subst this;exact⟨none,0,rfl,.inl rfl⟩
 refine⟨_,_,rfl,.inr ⟨g,0,rfl,trivial,(Array.getElem?_eq_some_iff.1 hg).1,λi r hi j u hu=>?_⟩⟩;rw[getElem?_map]at hi;obtain⟨e,he,rfl⟩:=Option.map_eq_some_iff.1 hi;have a:=Y0 hn i e he j u hu;rw[<-ht,getElem?_take]at a
 split at a
 ·have h2:b[i*n+j]?=some u:=by rw[<-Array.getElem?_toList];exact a
  rw[show(0+i*n+j)=i*n+j by omega];simp[World.cell?,hg,h2]
 cases a
end
section
variable {P:Program} {f:FuncId} {R:Ending->World->Prop}
end
section
variable {P:Program} {fi:FuncId} {R:Ending->World->Prop}
end
attribute [local irreducible] BI BQ AD AE AG Au Ab AO A8 Bi Ct BO At Fr
def F0 (p1:List UInt8):List (Df)->Int->Bool×Int×Int×Int×Int
 | [],a0_0=>(false,0,0,0,7)
 | e0::tl,a0_0=>cond (!(decide (e0.name=p1))) (F0 p1 tl a0_0) (cond (e0.kind==4) ((false,1,0,0,0)) ((e0.tb,e0.tm,e0.th,e0.td,0)))
theorem Xn {p1:List UInt8} {a:Int}:F0 p1 [] a=((false,0,0,0,7)):=by rw[F0]
theorem Tp {p1:List UInt8} {b:Int} {es:List (Df)} (i:Nat) (a:Df) (hi:es[i]?=some a):F0 p1 (es.drop i) b=(cond (!(decide (a.name=p1))) (F0 p1 (es.drop (i+1)) b) (cond (a.kind==4) ((false,1,0,0,0)) ((a.tb,a.tm,a.th,a.td,0)))):=by have hl:i<es.length:=(List.getElem?_eq_some_iff.1 hi).1;have he:es[i]=a:=(List.getElem?_eq_some_iff.1 hi).2;rw[<-getElem_cons_drop hl,F0]<;>(try rw[he])
def CN (ds:List (Df)) (p1:List UInt8):Bool×Int×Int×Int×Int:=F0 p1 ds 0
def Rk (r:Bool×Int×Int×Int×Int):Value:=.tuple #[D [I (r.1),J (r.2.1),J (r.2.2.1),J (r.2.2.2.1)],J (r.2.2.2.2)]
noncomputable def nR:Code:=Tryz.f135.body.getD .skip
def pH:=ν ([.code nR])
def dO:=ν (Au pH)
def z6:=AB (Aq Aa 90 (AE dO)) (AE dO)
def zz:=Ac 4 (AD (AD z6))
def zy:=Ω zz
def pG:=Ξ zy
def AG7:=Θ pG
def AG6:=Ξ pG
def AG5:=Ξ dO
theorem M6 (j:Option Addr) (ds:List (Df)) (f:Nat) (p1:List UInt8) (w:World) (d0:rowsDf w j ds) (m0:ds.length<=4294967296):Calls Tryz.prog 135 ([V j ds.length f,Y p1]:List Value).toArray w λe w'=>e=.returned (Rk (CN ds p1))/\Below (U w) w w':=by
 refine AS (fn:=Tryz.f135) (c:=nR) (n:=27) ?_;have K1:=Wk.start w;refine Ar pH K1 [] λw1 K2=>?_;have K3:Wk w w1 [N (U w) [I false,J 0,J 0,J 0] 65] [] []:=K2.pk [0] [];have a:(CN ds p1)=F0 p1 ds 0:=by unfold CN;rfl
 refine AX [(1,Y p1),(4,Z (U w)),(5,J 0),(8,V j ds.length f),(9,J ((ds.length:Int))),(10,J (((0:Nat):Int)))] λE2=>?_;refine Bp (by kernel_rfl) (λE z=>∃(b:Nat) (d:Int) (E0:Nat->Value),b<=ds.length/\E=BN E0 [(1,Y p1),(4,Z (U w)),(5,J d),(8,V j ds.length f),(9,J ((ds.length:Int))),(10,J ((b:Int)))]/\(CN ds p1)=F0 p1 (List.drop b ds) d/\Wk w z [N (U w) [I false,J 0,J 0,J 0] 65] [] []) (λE _=>ds.length-AP (E 10)) ⟨0,0,E2,Nat.zero_le _,rfl,a,K3⟩ ?_;clear a;rintro E z ⟨b,d,E0,e1,rfl,a,K4⟩ i;refine AC dO K4 [] λw4 K5=>?_;refine AH (decide ((b:Int)<(ds.length:Int))) (λc5=>?_) (λc5=>?_)
 ·have h:b<ds.length:=by have:=of_decide_eq_true c5;omega
  obtain⟨v,c0⟩:∃e,ds[b]?=some e:=⟨_,getElem?_eq_getElem h⟩;rw[Tp b v c0]at a;obtain⟨m,o,rfl,g0,h0⟩:=d0.all (by omega);obtain⟨t,q,s,p,a0,q0,p0⟩:=h0 b _ c0;refine Ao Aa z6 K5 [] λw6 K6=>?_;refine Aw (g:=m) (off:=o) (cap:=f) (sz:=21) (k:=b) (len:=ds.length) (some 12) h Tryz.underlying25 ?_;refine Bd 72 m (o+b*21) _ (some 13) (Aj a0 g0 K6.B) ?_;refine Bg 4 zz [N (U w) [I false,J 0,J 0,J 0] 65,N (U w6) ((CL v t q s p)) 72] K6 [(1,0)] λw7 K7=>?_;refine Ap K7 [(1,1,1)] [⟨3,[(15,Y (v.name)),(16,Y p1)],I (!(decide (v.name=p1))),true⟩] K7.G (λsp l0=>?_) λw8 E8 K8=>?_
  ·rw[mem_singleton.1 l0];exact BR λ_ E u _=>Ln (T:=9) (T':=9) (x:=.tmp 15) (y:=.tmp 16) (by kernel_rfl) (by kernel_rfl) (by kernel_rfl)
  refine AC zy K8 [] λw9 K9=>?_;refine AH (!(decide (v.name=p1))) (λl=>?_) (λl=>?_)
  ·refine AC (Ab pH) K9 [] λk0 x0=>?_;refine AX [(1,Y p1),(4,Z (U w)),(5,J d),(8,V (some ⟨m,o,none⟩) ds.length f),(9,J ((ds.length:Int))),(10,J (IntKind.i64.wrap ((b:Int)+1)))] λz0=>?_;have w0:Wk w k0 [N (U w) [I false,J 0,J 0,J 0] 65] [] []:=x0.pk [0] [];rw[Bs b (by omega)];refine i _ _ ⟨b+1,d,z0,h,rfl,by rw[a,l]<;>rfl,w0⟩ ?_;show ds.length-AP (J ((b+1:Nat):Int))<ds.length-AP (J (b:Int));simp only[AP];omega
  refine AC pG K9 [(1,0)] λd1 j0=>?_;refine AH (v.kind==4) (λr=>?_) (λr=>?_)
  ·refine Ar AG7 j0 [(0,0)] λc1 v0=>?_;exact AQ v0 (0,0) _ (by rw[a,l,r]<;>rfl)
  refine Ar AG6 j0 [(1,2),(0,0)] λb1 t0=>?_;exact AQ t0 (0,0) _ (by rw[a,l,r]<;>rfl)
 have b0:b=ds.length:=by have:=of_decide_eq_false c5;omega
 rw[b0,drop_length,Xn]at a;refine AC AG5 K5 [(0,0)] λa1 r0=>?_;exact AQ r0 (0,0) _ (by rw[a]<;>rfl)
def FE:List (Bool×Int×Int×Int)->Int->Int
 | [],a0_0=>0
 | e0::tl,a0_0=>cond (e0.1) (9) (FE tl a0_0)
theorem RO {a:Int}:FE [] a=(0):=by rw[FE]
theorem Pm {a:Int} {es:List (Bool×Int×Int×Int)} (i:Nat) (b:Bool×Int×Int×Int) (hi:es[i]?=some b):FE (es.drop i) a=(cond (b.1) (9) (FE (es.drop (i+1)) a)):=by have hl:i<es.length:=(List.getElem?_eq_some_iff.1 hi).1;have he:es[i]=b:=(List.getElem?_eq_some_iff.1 hi).2;rw[<-getElem_cons_drop hl,FE]<;>(try rw[he])
def CV (ts:List (Bool×Int×Int×Int)):Int:=FE ts 0
noncomputable def nO:Code:=Tryz.f142.body.getD .skip
def pD:=ν ([.code nO])
def dN:=ν (Au pD)
def zv:=AB (Aq Aa 90 (AE dN)) (AE dN)
def zu:=ν (AD (AD zv))
def AG0:=Θ zu
def AGz:=Ξ dN
theorem PD (j:Option Addr) (ts:List (Bool×Int×Int×Int)) (f:Nat) (w:World) (s:l8 w j ts) (x:ts.length<=4294967296):Calls Tryz.prog 142 ([V j ts.length f]:List Value).toArray w λe w'=>e=.returned (J (CV ts))/\Below (U w) w w':=by
 refine AS (fn:=Tryz.f142) (c:=nO) (n:=14) ?_;have K1:=Wk.start w;refine AC pD K1 [] λw1 K2=>?_;have K3:Wk w w1 [] [] []:=K2.pk [] [];have b:(CV ts)=FE ts 0:=by unfold CV;rfl
 refine AX [(2,J 0),(5,V j ts.length f),(6,J ((ts.length:Int))),(7,J (((0:Nat):Int)))] λE2=>?_;refine Bp (by kernel_rfl) (λE o=>∃(a:Nat) (d:Int) (E0:Nat->Value),a<=ts.length/\E=BN E0 [(2,J d),(5,V j ts.length f),(6,J ((ts.length:Int))),(7,J ((a:Int)))]/\(CV ts)=FE (List.drop a ts) d/\Wk w o [] [] []) (λE _=>ts.length-AP (E 7)) ⟨0,0,E2,Nat.zero_le _,rfl,b,K3⟩ ?_;clear b;rintro E o ⟨a,d,E0,g0,rfl,b,K4⟩ i;refine AC dN K4 [] λw4 K5=>?_;refine AH (decide ((a:Int)<(ts.length:Int))) (λz=>?_) (λz=>?_)
 ·have h:a<ts.length:=by have:=of_decide_eq_true z;omega
  obtain⟨e0,r⟩:∃e,ts[a]?=some e:=⟨_,getElem?_eq_getElem h⟩;rw[Pm a e0 r]at b;obtain⟨l,m,rfl,t,u⟩:=s.all (by omega);have p:=u a _ r;refine Ao Aa zv K5 [] λw6 K6=>?_;refine Aw (g:=l) (off:=m) (cap:=f) (sz:=4) (k:=a) (len:=ts.length) (some 9) h Tryz.underlying75 ?_;refine Bd 65 l (m+a*4) _ (some 10) (Aj p t K6.B) ?_;refine Ar zu K6 [(0,0),(0,0)] λw7 K7=>?_;refine AH (e0.1) (λy=>?_) (λy=>?_)
  ·refine AC AG0 K7 [] λw9 K8=>?_;exact AQ K8 (0,0) _ (by rw[b,y]<;>rfl)
  refine AC (Ab pD) K7 [] λv K9=>?_;refine AX [(2,J d),(5,V (some ⟨l,m,none⟩) ts.length f),(6,J ((ts.length:Int))),(7,J (IntKind.i64.wrap ((a:Int)+1)))] λc0=>?_;have b0:Wk w v [] [] []:=K9.pk [] [];rw[Bs a (by omega)];refine i _ _ ⟨a+1,d,c0,h,rfl,by rw[b,y]<;>rfl,b0⟩ ?_;show ts.length-AP (J ((a+1:Nat):Int))<ts.length-AP (J (a:Int));simp only[AP];omega
 have q:a=ts.length:=by have:=of_decide_eq_false z;omega
 rw[q,drop_length,RO]at b;refine AC AGz K5 [] λd0 a0=>?_;exact AQ a0 (0,0) _ (by rw[b]<;>rfl)
def GQ:List (Bool×Int×Int×Int)->Int->Int
 | [],a0_0=>0
 | e0::tl,a0_0=>cond (!(e0.1)) (9) (GQ tl a0_0)
theorem Tx {a:Int}:GQ [] a=(0):=by rw[GQ]
theorem Si {a:Int} {es:List (Bool×Int×Int×Int)} (i:Nat) (b:Bool×Int×Int×Int) (hi:es[i]?=some b):GQ (es.drop i) a=(cond (!(b.1)) (9) (GQ (es.drop (i+1)) a)):=by have hl:i<es.length:=(List.getElem?_eq_some_iff.1 hi).1;have he:es[i]=b:=(List.getElem?_eq_some_iff.1 hi).2;rw[<-getElem_cons_drop hl,GQ]<;>(try rw[he])
def BF (ts:List (Bool×Int×Int×Int)):Int:=GQ ts 0
noncomputable def nV:Code:=Tryz.f141.body.getD .skip
def pM:=ν ([.code nV])
def dP:=ν (Au pM)
def AAE:=AB (Aq Aa 90 (AE dP)) (AE dP)
def AAD:=ν (AD (AD AAE))
def AHG:=Θ AAD
def AHF:=Ξ dP
theorem Lo (j:Option Addr) (ts:List (Bool×Int×Int×Int)) (f:Nat) (w:World) (s:l8 w j ts) (x:ts.length<=4294967296):Calls Tryz.prog 141 ([V j ts.length f]:List Value).toArray w λe w'=>e=.returned (J (BF ts))/\Below (U w) w w':=by
 refine AS (fn:=Tryz.f141) (c:=nV) (n:=15) ?_;have K1:=Wk.start w;refine AC pM K1 [] λw1 K2=>?_;have K3:Wk w w1 [] [] []:=K2.pk [] [];have b:(BF ts)=GQ ts 0:=by unfold BF;rfl
 refine AX [(2,J 0),(5,V j ts.length f),(6,J ((ts.length:Int))),(7,J (((0:Nat):Int)))] λE2=>?_;refine Bp (by kernel_rfl) (λE o=>∃(a:Nat) (d:Int) (E0:Nat->Value),a<=ts.length/\E=BN E0 [(2,J d),(5,V j ts.length f),(6,J ((ts.length:Int))),(7,J ((a:Int)))]/\(BF ts)=GQ (List.drop a ts) d/\Wk w o [] [] []) (λE _=>ts.length-AP (E 7)) ⟨0,0,E2,Nat.zero_le _,rfl,b,K3⟩ ?_;clear b;rintro E o ⟨a,d,E0,g0,rfl,b,K4⟩ i;refine AC dP K4 [] λw4 K5=>?_;refine AH (decide ((a:Int)<(ts.length:Int))) (λz=>?_) (λz=>?_)
 ·have h:a<ts.length:=by have:=of_decide_eq_true z;omega
  obtain⟨e0,r⟩:∃e,ts[a]?=some e:=⟨_,getElem?_eq_getElem h⟩;rw[Si a e0 r]at b;obtain⟨l,m,rfl,t,u⟩:=s.all (by omega);have p:=u a _ r;refine Ao Aa AAE K5 [] λw6 K6=>?_;refine Aw (g:=l) (off:=m) (cap:=f) (sz:=4) (k:=a) (len:=ts.length) (some 9) h Tryz.underlying75 ?_;refine Bd 65 l (m+a*4) _ (some 10) (Aj p t K6.B) ?_;refine Ar AAD K6 [(0,0),(0,0)] λw7 K7=>?_;refine AH (!(e0.1)) (λy=>?_) (λy=>?_)
  ·refine AC AHG K7 [] λw9 K8=>?_;exact AQ K8 (0,0) _ (by rw[b,y]<;>rfl)
  refine AC (Ab pM) K7 [] λv K9=>?_;refine AX [(2,J d),(5,V (some ⟨l,m,none⟩) ts.length f),(6,J ((ts.length:Int))),(7,J (IntKind.i64.wrap ((a:Int)+1)))] λc0=>?_;have b0:Wk w v [] [] []:=K9.pk [] [];rw[Bs a (by omega)];refine i _ _ ⟨a+1,d,c0,h,rfl,by rw[b,y]<;>rfl,b0⟩ ?_;show ts.length-AP (J ((a+1:Nat):Int))<ts.length-AP (J (a:Int));simp only[AP];omega
 have q:a=ts.length:=by have:=of_decide_eq_false z;omega
 rw[q,drop_length,Tx]at b;refine AC AHF K5 [] λd0 a0=>?_;exact AQ a0 (0,0) _ (by rw[b]<;>rfl)
def GX (p0:Int) (p1a:Bool) (p1ba:Int) (p1bb:Int) (p1bc:Int) (p2a:Bool) (p2ba:Int) (p2bb:Int) (p2bc:Int):Bool×Int×Int×Int×Int:=cond (!(CV [(p1a,p1ba,p1bb,p1bc),(p2a,p2ba,p2bb,p2bc)]==0)) ((false,0,0,0,CV [(p1a,p1ba,p1bb,p1bc),(p2a,p2ba,p2bb,p2bc)])) (cond (p0==8) (cond (!((Lz p1ba p1bb p1bc p2ba p2bb p2bc).2.2.2==0)) ((false,0,0,0,10)) ((false,(Lz p1ba p1bb p1bc p2ba p2bb p2bc).1,(Lz p1ba p1bb p1bc p2ba p2bb p2bc).2.1,(Lz p1ba p1bb p1bc p2ba p2bb p2bc).2.2.1,0))) (cond (!((Lu p1ba p1bb p1bc p2ba p2bb p2bc).2.2.2==0)) ((false,0,0,0,10)) ((false,(Lu p1ba p1bb p1bc p2ba p2bb p2bc).1,(Lu p1ba p1bb p1bc p2ba p2bb p2bc).2.1,(Lu p1ba p1bb p1bc p2ba p2bb p2bc).2.2.1,0))))
def Ns (r:Bool×Int×Int×Int×Int):Value:=.tuple #[D [I (r.1),J (r.2.1),J (r.2.2.1),J (r.2.2.2.1)],J (r.2.2.2.2)]
noncomputable def nK:Code:=Tryz.f139.body.getD .skip
def zt:=ν ([.code nK])
def pB:=Ψ zt
def AGw:=Θ pB
def o8:=Ξ pB
def zr:=Θ o8
def o7:=Ψ zr
def AGv:=Θ o7
def AGu:=Ξ o7
def zq:=Ξ o8
def o6:=Ψ zq
def AEd:=Θ o6
def AEc:=Ξ o6
theorem PB (r:Int) (j:Bool) (h g f:Int) (i:Bool) (d b a:Int) (w:World):Calls Tryz.prog 139 ([J r,D [I j,J h,J g,J f],D [I i,J d,J b,J a]]:List Value).toArray w λe w'=>e=.returned (Ns (GX r j h g f i d b a))/\Below (U w) w w':=by
 refine AS (fn:=Tryz.f139) (c:=nK) (n:=36) ?_;have K1:=Wk.start w;refine Ar zt K1 [(0,0),(1,0)] λw1 K2=>?_;refine AW K2 (PD (some ⟨U w+3,0,none⟩) [(j,h,g,f),(i,d,b,a)] 2 w1 (Db (t:=65) (rs:=[[I j,J h,J g,J f],[I i,J d,J b,J a]]) (by simp) (K2.ent 3 (by kernel_rfl))) (by first | assumption | omega | (simp<;>omega))) λw2 K3=>?_;refine AC pB K3 [] λw3 K4=>?_;refine AH (!(CV [(j,h,g,f),(i,d,b,a)]==0)) (λm=>?_) (λm=>?_)
 ·refine AC AGw K4 [(2,0)] λw5 K5=>?_;exact AQ K5 (2,0) _ (by unfold GX;rw[m]<;>rfl)
 refine AC o8 K4 [] λw6 K6=>?_;refine AH (r==8) (λo=>?_) (λo=>?_)
 ·refine AC zr K6 [(0,1),(1,1)] λw8 K7=>?_;refine TX K7 (ol h g f d b a w8) λw9 K8=>?_;refine Ar o7 K8 [(4,0)] λh0 K9=>?_;refine AH (!((Lz h g f d b a).2.2.2==0)) (λl=>?_) (λl=>?_)
  ·refine AC AGv K9 [(2,0)] λg0 z=>?_;exact AQ z (2,0) _ (by unfold GX;rw[m,o,l]<;>rfl)
  refine Ar AGu K9 [(4,0),(2,0)] λe0 y=>?_;exact AQ y (2,0) _ (by unfold GX;rw[m,o,l]<;>rfl)
 refine AC zq K6 [(0,1),(1,1)] λq x=>?_;refine TX x (oh h g f d b a q) λd0 v=>?_;refine Ar o6 v [(4,0)] λc0 p=>?_;refine AH (!((Lu h g f d b a).2.2.2==0)) (λk=>?_) (λk=>?_)
 ·refine AC AEd p [(2,0)] λb0 u=>?_;exact AQ u (2,0) _ (by unfold GX;rw[m,o,k]<;>rfl)
 refine Ar AEc p [(4,0),(2,0)] λa0 s=>?_;exact AQ s (2,0) _ (by unfold GX;rw[m,o,k]<;>rfl)
end
end Go.Proofs.YtkpemkkbjfbmaaaGreat
namespace Go.Proofs.YtkpemkkbjfbmaaaGreat
open List
open Go.RowKit
set_option maxRecDepth 100000
def Cy (w w':World):Prop:=Below (U w) w w'
theorem Cy.refl (w:World):Cy w w:=Below.refl _ _
theorem Cy.trans {a b c:World} (h:Cy a b) (k:Cy b c):Cy a c:=Below.trans h (Below.mono k (Below.size h))
def Kw (n sz:Nat) (rs:List (List Value)) (vs:List Value) (w:World):Prop:=∃g,vs=[φ g n n]/\DF Cg w sz (θ g) rs
theorem Kw.keep {n sz:Nat} {rs:List (List Value)} {vs:List Value} {w w':World} (h:Kw n sz rs vs w) (he:Cy w w'):Kw n sz rs vs w':=let ⟨g,h1,h2⟩:=h;⟨g,h1,h2.below he⟩
theorem rowsEx.all {w:World} {A:Option Addr} {es:List Ex} (h:rowsEx w A es) (b:es≠[]):∃g off,A=some ⟨g,off,none⟩/\g<(U w)/\∀(i:Nat) e,es[i]?=some e->∃a d,w.rangeAt g (off+i*10) (Ad e a d)/\rowsEx w a e.ks:=by
 obtain⟨ks,c,h2⟩:=h;rcases h2 with h2 | ⟨g,off,rfl,_,hg,hc⟩
 ·subst h2
  cases es with
  | nil=>exact absurd rfl b
  | cons e es=>unfold Fb at c;obtain⟨_,_,h,_⟩:=c;exact nomatch h
 refine⟨g,off,rfl,hg,λi e hi=>?_⟩;obtain⟨r,hr,hx⟩:=NA c hi;obtain⟨a,d,rfl,f⟩:=gp hx;exact⟨a,d,λj u hu=>hc i _ hr j u hu,f⟩
def CK (stop:List Item->Bool):Nat->List Bool->List Item->Nat×List Item
 | 0,_,t=>(0,t)
 | m+1,bs,t=>match stop t with
  | true=>(0,t)
  | false=>match OV t with
   | some t'=>let r:=CK stop m bs t';(r.1+1,r.2)
   | none=>match t with
    | .code (.cond _ x y)::k=>match bs with
     | []=>(0,t)
     | true::bs=>let r:=CK stop m bs (.code x::k);(r.1+1,r.2)
     | false::bs=>let r:=CK stop m bs (.code y::k);(r.1+1,r.2)
    | .code (.loop c)::k=>let r:=CK stop m bs (.code c :: .inLoop c::k);(r.1+1,r.2)
    | .inLoop c::k=>let r:=CK stop m bs (.code c :: .inLoop c::k);(r.1+1,r.2)
    | _=>(0,t)
def HM (T:TypeId):Op->Bool
 | .indexAddr t _ _=>t==T
 | _=>false
def EK:Next->Option Value
 | .value v=>some v
 | .skip=>some undef
 | _=>none
section
variable {P:Program} {ops:Array Oper} {Q:Exit->Act->World->Prop} {md:Region.Mode} {n:Nat} {E:Nat->Value}
theorem YR {a:Array Bool} {fuel i:Nat} {w:World} (o:Oper) (M M':List Ax) (hint:Nat×Nat) (b:Nat) (v:Value) (hr:Region.ready md ops a=[i]) (ho:ops[i]?=some o) (hg:o.guard=none)
  (e:En (M.map (·.id)) (U w) w ⟨U w,M,(0,0),[]⟩)
  (he:(Ce P (execOp (BK n E) o) ⟨U w,M,hint,[]⟩).map (λp=>(EK p.1,p.2.mem,p.2.sz,p.2.eqs.map Prod.fst))=(Ce P (execOp (BK n E) o) ⟨U w,M,hint,[]⟩).map (λp=>(some v,M',b,p.2.eqs.map Prod.snd)))
  (hs:(Ce P (execOp (BK n E) o) ⟨U w,M,hint,[]⟩).isSome=true)
  (g:∀w',En (M.map (·.id)) (U w) w' ⟨b,M',(0,0),[]⟩->FN (M.map (·.id)) (U w) w w'->wpAny P md ops Q fuel (a.setIfInBounds i true) (Fr n (A8 E o.dst v)) w'):wpAny P md ops Q (fuel+1) a (Fr n E) w:=by
 cases hm:Ce P (execOp (BK n E) o) ⟨U w,M,hint,[]⟩with
 | none=>rw[hm]at hs;cases hs
 | some p=>
  obtain⟨r,c⟩:=p;rw[hm]at he;simp only[Option.map_some,Option.some.injEq,Prod.mk.injEq]at he;obtain⟨f,h2,k,j⟩:=he;refine bA o ⟨U w,M,hint,[]⟩ c r v hr ho hg hm ?_ ⟨e.sat,e.le,e.own⟩ j λw' d h=>g w' (XZ d b M' k h2) h
  cases r<;>simp[EK]at f
  ·exact .inl (by rw[f])
  exact .inr ⟨rfl,f.symm⟩
end
section
variable {P:Program} {ops:Array Oper} {Q:Exit->Act->World->Prop} {md:Region.Mode} {n:Nat} {E:Nat->Value}
theorem Jf {a:Array Bool} {fuel i:Nat} {w0 w:World} {M:List Ax} {L T:List Th} (K:Wk w0 w M L T) (o:Oper) (M':List Ax) (hint:Nat×Nat) (v:Value) (d:∀w',Wk w0 w' M' L T->wpAny P md ops Q fuel (a.setIfInBounds i true) (Fr n (A8 E o.dst v)) w') (hr:Region.ready md ops a=[i]:=by kernel_rfl) (ho:ops[i]?=some o:=by kernel_rfl) (hg:o.guard=none:=by kernel_rfl) (he:(Ce P (execOp (BK n E) o) ⟨U w,M,hint,[]⟩).map (λp=>(EK p.1,p.2.mem,p.2.eqs.map Prod.fst))=(Ce P (execOp (BK n E) o) ⟨U w,M,hint,[]⟩).map (λp=>(some v,M',p.2.eqs.map Prod.snd)):=by kernel_rfl) (hs:(Ce P (execOp (BK n E) o) ⟨U w,M,hint,[]⟩).isSome=true:=by kernel_rfl) (hown:M'.all (·.own)=true:=by kernel_rfl):wpAny P md ops Q (fuel+1) a (Fr n E) w:=by
 cases hm:Ce P (execOp (BK n E) o) ⟨U w,M,hint,[]⟩with
 | none=>rw[hm]at hs;cases hs
 | some p=>
  have b:=he;rw[hm]at b;simp only[Option.map_some,Option.some.injEq,Prod.mk.injEq]at b;refine YR o M M' hint p.2.sz v hr ho hg K.H.lies ?_ hs λw' e c=>d w' ⟨K.B.trans (K.H.keptB c),K.H.run e c hown⟩;rw[hm];simp only[Option.map_some,Option.some.injEq,Prod.mk.injEq];exact⟨b.1,b.2.1,trivial,b.2.2⟩
theorem Dy {a:Array Bool} {fuel i:Nat} {w0 w:World} {M:List Ax} {L T:List Th} (K:Wk w0 w M L T) (o:Oper) (hint:Nat×Nat) (v:Value)
  (b:∀w',Wk w0 w' (((Ce P (execOp (BK n E) o) ⟨U w,M,hint,[]⟩).map (·.2.mem)).getD []) L T->wpAny P md ops Q fuel (a.setIfInBounds i true) (Fr n (A8 E o.dst v)) w')
  (hr:Region.ready md ops a=[i]:=by kernel_rfl) (ho:ops[i]?=some o:=by kernel_rfl) (hg:o.guard=none:=by kernel_rfl)
  (he:(Ce P (execOp (BK n E) o) ⟨U w,M,hint,[]⟩).map (λp=>(EK p.1,p.2.eqs.map Prod.fst))=(Ce P (execOp (BK n E) o) ⟨U w,M,hint,[]⟩).map (λp=>(some v,p.2.eqs.map Prod.snd)):=by kernel_rfl)
  (hs:(Ce P (execOp (BK n E) o) ⟨U w,M,hint,[]⟩).isSome=true:=by kernel_rfl) (hown:(((Ce P (execOp (BK n E) o) ⟨U w,M,hint,[]⟩).map (·.2.mem)).getD []).all (·.own)=true:=by kernel_rfl):wpAny P md ops Q (fuel+1) a (Fr n E) w:=by
 refine Jf K o _ hint v b hr ho hg ?_ hs hown
 cases hm:Ce P (execOp (BK n E) o) ⟨U w,M,hint,[]⟩with
 | none=>rfl
 | some p=>
  rw[hm]at he;simp only[Option.map_some,Option.some.injEq,Prod.mk.injEq,Option.getD_some,true_and]at he ⊢;exact he
theorem Bk {a:Array Bool} {fuel:Nat} {w:World} (l:List (Nat×Value)) (b:∀E',wpAny P md ops Q fuel a (Fr n (BN E' l)) w) (h:l.map (λp=>E p.1)=l.map (·.2):=by kernel_rfl):wpAny P md ops Q fuel a (Fr n E) w:=by rw[<-Nb h];exact b E
theorem AL.runsK {o:Oper} {ρ:Operand->Value} {w:World} {K:Value->World->Prop} {O:List Nat} {B:Nat} (ms a:MS) (r:Next) (v:Value) (hv:r=.value v\/(r=.skip/\v=undef)) (c:En O B w ms) (he:a.eqs.map Prod.fst=a.eqs.map Prod.snd) (h:∀w',En O B w' a->FN O B w w'->K v w') (hm:Ce P (execOp ρ o) ms=some (r,a):=by kernel_rfl):AL P o ρ w K:=by
 have e:∀p∈a.eqs,p.1=p.2:=λp g=>by
  obtain⟨i,hi⟩:=mem_iff_getElem?.1 g;have d:(a.eqs.map Prod.fst)[i]?=some p.1:=by rw[getElem?_map,hi];rfl
  have h2:(a.eqs.map Prod.snd)[i]?=some p.2:=by rw[getElem?_map,hi];rfl
  rw[he,h2]at d;exact(Option.some.inj d).symm
 obtain⟨w',d,h2,f,j⟩:=KT _ _ _ _ w hm c.sat c.le c.own e;have b:=h w' ⟨h2,Nat.le_trans c.le f.size,j⟩ f;unfold AL;rw[d];rcases hv with rfl | ⟨rfl,rfl⟩
 ·exact b
 exact b
end
section
variable {P:Program} {f:FuncId} {R:Ending->World->Prop}
end
theorem rowsEx.all0 {w:World} {A:Option Addr} {es:List Ex} (h:rowsEx w A es) (a:0<es.length):∃g off,A=some ⟨g,off,none⟩/\g<(U w)/\∀(i:Nat) e,es[i]?=some e->∃A2 c2,w.rangeAt g (off+i*10) (Ad e A2 c2)/\rowsEx w A2 e.ks:=
 h.all (λb=>by rw[b]at a;exact absurd a (Nat.lt_irrefl _))
end Go.Proofs.YtkpemkkbjfbmaaaGreat

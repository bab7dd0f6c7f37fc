/- Contracts of functions, part 16. -/
import Derived.Test.YtkpemkkbjfbmaaaGreatMc15
set_option linter.all false
namespace Go.Proofs.YtkpemkkbjfbmaaaGreat
noncomputable section
open Go.RowKit
set_option maxRecDepth 100000
set_option maxHeartbeats 1000000
attribute [local irreducible] BI BQ AD AE AG Au Ab AO A8 Bi Ct BX BO At Fr
def BB (mi:List (List UInt8×Int)) (ms:List (List UInt8×Int)) (mp:List (List UInt8×Int)) (mr:List (List UInt8×Int)) (x:Ex):Int×Int×Int×Int×Int×Int:=cond (x.op==1) ((1,0,x.num,x.den,0,0)) (cond (x.op==2) (((Ah x.cnt).1,(Ah x.cnt).2.1,(Ah x.cnt).2.2.1,(Ah x.cnt).2.2.2.1,(Ah x.cnt).2.2.2.2.1,(Ah x.cnt).2.2.2.2.2)) (cond (x.op==3) (cond ((Bf mi x.nm).isSome) ((2,(Bf mi x.nm).getD 0,0,0,0,0)) ((3,(Bf mr x.nm).getD 0,0,0,0,0))) (cond (x.op==4) ((4,(Bf ms x.nm).getD 0,0,0,0,0)) (cond (x.op==19) ((18,0,x.num,x.den,0,x.md)) (cond (x.op==20) ((19,(Bf mp x.nm).getD 0,0,0,x.cnt,0)) (cond (x.op==21) ((20,(Bf mp x.nm).getD 0,0,0,x.cnt,0)) ((Fd x.op,0,0,0,0,0))))))))
noncomputable def ai:Code:=Tryz.f58.body.getD .skip
def ef:=ν ([.code ai])
def AFX:=Θ ef
def ee:=Ξ ef
def vC:=Θ ee
def AFW:=Ψ vC
def UR:=Ξ ee
def vB:=AB (Aq FQ 90 (AE UR)) (AE UR)
def UQ:=Ψ vB
def AFV:=Θ UQ
def u1:=AB (Aq FQ 90 (AG UQ)) (AG UQ)
def ABO:=Ψ u1
def Qq:=Ξ UR
def lI:=AB (Aq FQ 90 (AE Qq)) (AE Qq)
def ABN:=Ψ lI
def WY:=Ξ Qq
def ABM:=Θ WY
def Qp:=Ξ WY
def lH:=AB (Aq FQ 90 (AE Qp)) (AE Qp)
def ABL:=Ψ lH
def Qo:=Ξ Qp
def lG:=AB (Aq FQ 90 (AE Qo)) (AE Qo)
def ABK:=Ψ lG
def lF:=Ξ Qo
def ABJ:=Ψ lF
theorem Rd (p0aaA:Option Addr) (p0aan p0aac:Nat) (p0abA:Option Addr) (p0abn p0abc:Nat) (p0acA:Option Addr) (p0acn p0acc:Nat) (p0adA:Option Addr) (p0adn p0adc bi:Nat) (d:List (List UInt8×Int)) (bs:Nat) (ms:List (List UInt8×Int)) (bp:Nat) (a:List (List UInt8×Int)) (br:Nat) (f:List (List UInt8×Int)) (x:Ex) (r:Option Addr) (b0:Nat) (w:World) (v:Ag.at BW bi d w) (s:Ag.at BW bs ms w) (k:Ag.at BW bp a w) (u:Ag.at BW br f w) (b1:rowsEx w r x.ks) (g:EB x):Calls Tryz.prog 58 ([D [V p0aaA p0aan p0aac,V p0abA p0abn p0abc,V p0acA p0acn p0acc,V p0adA p0adn p0adc,.map (some bi),.map (some bs),.map (some bp),.map (some br)],D ((ω x r b0))]:List Value).toArray w λe w'=>e=.returned (D [J (((BB d ms a f x)).1),J (((BB d ms a f x)).2.1),J (((BB d ms a f x)).2.2.1),J (((BB d ms a f x)).2.2.2.1),J (((BB d ms a f x)).2.2.2.2.1),J (((BB d ms a f x)).2.2.2.2.2)])/\Below (U w) w w':=by
 refine AS (fn:=Tryz.f58) (c:=ai) (n:=77) ?_;have K1:=Wk.start w;refine Ar ef K1 [(1,0)] λw1 K2=>?_;refine AH (x.op==1) (λo=>?_) (λo=>?_)
 ·refine Ar AFX K2 [(1,1),(2,0)] λw3 K3=>?_;have h:(BB d ms a f x)=(1,0,x.num,x.den,0,0):=by unfold BB;rw[o]<;>rfl
  exact AN K3 (2,0) (D [J 1,J 0,J x.num,J x.den,J 0,J 0]) ⟨by rw[h]<;>rfl,K3.B⟩
 refine AC ee K2 [] λw4 K4=>?_;refine AH (x.op==2) (λp=>?_) (λp=>?_)
 ·refine AC vC K4 [(1,7)] λw6 K5=>?_;refine AW K5 (Ph x.cnt w6) λw7 K6=>?_;refine Ar AFW K6 [(2,0)] λw8 K7=>?_;have h:(BB d ms a f x)=((Ah x.cnt).1,(Ah x.cnt).2.1,(Ah x.cnt).2.2.1,(Ah x.cnt).2.2.2.1,(Ah x.cnt).2.2.2.2.1,(Ah x.cnt).2.2.2.2.2):=by unfold BB;rw[o,p]<;>rfl
  exact AN K7 (2,0) (mI (Ah x.cnt)) ⟨by rw[h]<;>rfl,K7.B⟩
 refine AC UR K4 [] λw9 K8=>?_;refine AH (x.op==3) (λi=>?_) (λi=>?_)
 ·refine Ao FQ vB K8 [(0,4),(1,6)] λv1 K9=>?_;refine EW (Rn BW (t:=85) (x:=.tmp 23) (y:=.tmp 25) (by kernel_rfl) rfl (b:=bi) (m:=d) (by kernel_rfl) x.nm (by kernel_rfl) (LT g) (Ag.below v K9.B)) ?_;refine AC UQ K9 [] λt1 w0=>?_;refine AH ((Bf d x.nm).isSome) (λa0=>?_) (λa0=>?_)
  ·refine Ar AFV w0 [(2,0)] λs1 v0=>?_;have h:(BB d ms a f x)=(2,(Bf d x.nm).getD 0,0,0,0,0):=by unfold BB;rw[o,p,i,a0]<;>rfl
   exact AN v0 (2,0) (D [J 2,J ((Bf d x.nm).getD 0),J 0,J 0,J 0,J 0]) ⟨by rw[h]<;>rfl,v0.B⟩
  refine Ao FQ u1 w0 [(0,7),(1,6)] λr1 t0=>?_;refine EW (Hm BW (t:=85) (x:=.tmp 33) (y:=.tmp 35) (by kernel_rfl) rfl (b:=br) (m:=f) (by kernel_rfl) x.nm (by kernel_rfl) (LT g) (Ag.below u t0.B)) ?_;refine Ar ABO t0 [(2,0)] λq1 r0=>?_;have h:(BB d ms a f x)=(3,(Bf f x.nm).getD 0,0,0,0,0):=by unfold BB;rw[o,p,i,a0]<;>rfl
  exact AN r0 (2,0) (D [J 3,J ((Bf f x.nm).getD 0),J 0,J 0,J 0,J 0]) ⟨by rw[h]<;>rfl,r0.B⟩
 refine AC Qq K8 [] λp1 q0=>?_;refine AH (x.op==4) (λj=>?_) (λj=>?_)
 ·refine Ao FQ lI q0 [(0,5),(1,6)] λo1 p0=>?_;refine EW (Hm BW (t:=85) (x:=.tmp 41) (y:=.tmp 43) (by kernel_rfl) rfl (b:=bs) (m:=ms) (by kernel_rfl) x.nm (by kernel_rfl) (LT g) (Ag.below s p0.B)) ?_;refine Ar ABN p0 [(2,0)] λn1 m0=>?_;have h:(BB d ms a f x)=(4,(Bf ms x.nm).getD 0,0,0,0,0):=by unfold BB;rw[o,p,i,j]<;>rfl
  exact AN m0 (2,0) (D [J 4,J ((Bf ms x.nm).getD 0),J 0,J 0,J 0,J 0]) ⟨by rw[h]<;>rfl,m0.B⟩
 refine AC WY q0 [] λm1 l0=>?_;refine AH (x.op==19) (λl=>?_) (λl=>?_)
 ·refine Ar ABM l0 [(1,1),(1,8),(2,0)] λl1 k0=>?_;have h:(BB d ms a f x)=(18,0,x.num,x.den,0,x.md):=by unfold BB;rw[o,p,i,j,l]<;>rfl
  exact AN k0 (2,0) (D [J 18,J 0,J x.num,J x.den,J 0,J x.md]) ⟨by rw[h]<;>rfl,k0.B⟩
 refine AC Qp l0 [] λk1 j0=>?_;refine AH (x.op==20) (λq=>?_) (λq=>?_)
 ·refine Ao FQ lH j0 [(0,6),(1,6)] λi1 i0=>?_;refine EW (Hm BW (t:=85) (x:=.tmp 56) (y:=.tmp 58) (by kernel_rfl) rfl (b:=bp) (m:=a) (by kernel_rfl) x.nm (by kernel_rfl) (LT g) (Ag.below k i0.B)) ?_;refine Ar ABL i0 [(1,7),(2,0)] λh1 h0=>?_;have h:(BB d ms a f x)=(19,(Bf a x.nm).getD 0,0,0,x.cnt,0):=by unfold BB;rw[o,p,i,j,l,q]<;>rfl
  exact AN h0 (2,0) (D [J 19,J ((Bf a x.nm).getD 0),J 0,J 0,J x.cnt,J 0]) ⟨by rw[h]<;>rfl,h0.B⟩
 refine AC Qo j0 [] λg1 g0=>?_;refine AH (x.op==21) (λz=>?_) (λz=>?_)
 ·refine Ao FQ lG g0 [(0,6),(1,6)] λf1 e0=>?_;refine EW (Hm BW (t:=85) (x:=.tmp 66) (y:=.tmp 68) (by kernel_rfl) rfl (b:=bp) (m:=a) (by kernel_rfl) x.nm (by kernel_rfl) (LT g) (Ag.below k e0.B)) ?_;refine Ar ABK e0 [(1,7),(2,0)] λe1 d0=>?_;have h:(BB d ms a f x)=(20,(Bf a x.nm).getD 0,0,0,x.cnt,0):=by unfold BB;rw[o,p,i,j,l,q,z]<;>rfl
  exact AN d0 (2,0) (D [J 20,J ((Bf a x.nm).getD 0),J 0,J 0,J x.cnt,J 0]) ⟨by rw[h]<;>rfl,d0.B⟩
 refine AC lF g0 [(1,0)] λx0 a1=>?_;refine AW a1 (mJ x.op x0) λd1 z0=>?_;refine Ar ABJ z0 [(2,0)] λc1 c0=>?_;have h:(BB d ms a f x)=(Fd x.op,0,0,0,0,0):=by unfold BB;rw[o,p,i,j,l,q,z]<;>rfl
 exact AN c0 (2,0) (D [J (Fd x.op),J 0,J 0,J 0,J 0,J 0]) ⟨by rw[h]<;>rfl,c0.B⟩
end
end Go.Proofs.YtkpemkkbjfbmaaaGreat

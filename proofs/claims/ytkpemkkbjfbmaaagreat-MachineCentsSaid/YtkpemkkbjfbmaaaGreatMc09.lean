/- Contracts of functions, part 9. -/
import Derived.Test.YtkpemkkbjfbmaaaGreatMc07
set_option linter.all false
namespace Go.Proofs.YtkpemkkbjfbmaaaGreat
open List
noncomputable section
open Go.RowKit
set_option maxRecDepth 100000
set_option maxHeartbeats 1000000
attribute [local irreducible] BI BQ AD AE AG Au Ab AO A8 Bi Ct BX BO At Fr
def DN (ns:List Df) (ss:List Df) (ps:List Df) (x:Ex) (k0:Bool×Int×Int×Int) (k1:Bool×Int×Int×Int) (k2:Bool×Int×Int×Int):Bool×Int×Int×Int×Int:=cond (x.op==1) ((false,x.mu,x.hu,x.du,0)) (cond (x.op==2) ((true,0,0,0,0)) (cond (x.op==3) (CN ns x.nm) (cond (x.op==20) (CN ps x.nm) (cond (x.op==21) (CN ps x.nm) (cond (x.op==4) (cond ((CN ss x.nm).2.2.2.2==0) (Ae ((CN ss x.nm).1) ((CN ss x.nm).2.1) ((CN ss x.nm).2.2.1) ((CN ss x.nm).2.2.2.1) (Dj k0.1 k0.2.1 k0.2.2.1 k0.2.2.2 0 0 0)) (Ae ((CN ss x.nm).1) ((CN ss x.nm).2.1) ((CN ss x.nm).2.2.1) ((CN ss x.nm).2.2.2.1) ((CN ss x.nm).2.2.2.2))) (cond (x.op==5) (Ae k0.1 k0.2.1 k0.2.2.1 k0.2.2.2 (BP k0.1 k0.2.1 k0.2.2.1 k0.2.2.2 k1.1 k1.2.1 k1.2.2.1 k1.2.2.2)) (cond (x.op==6) (Ae k0.1 k0.2.1 k0.2.2.1 k0.2.2.2 (BP k0.1 k0.2.1 k0.2.2.1 k0.2.2.2 k1.1 k1.2.1 k1.2.2.1 k1.2.2.2)) (cond (x.op==14) (Ae k0.1 k0.2.1 k0.2.2.1 k0.2.2.2 (BP k0.1 k0.2.1 k0.2.2.1 k0.2.2.2 k1.1 k1.2.1 k1.2.2.1 k1.2.2.2)) (cond (x.op==15) (Ae k0.1 k0.2.1 k0.2.2.1 k0.2.2.2 (BP k0.1 k0.2.1 k0.2.2.1 k0.2.2.2 k1.1 k1.2.1 k1.2.2.1 k1.2.2.2)) (cond (x.op==7) (GX x.op k0.1 k0.2.1 k0.2.2.1 k0.2.2.2 k1.1 k1.2.1 k1.2.2.1 k1.2.2.2) (cond (x.op==8) (GX x.op k0.1 k0.2.1 k0.2.2.1 k0.2.2.2 k1.1 k1.2.1 k1.2.2.1 k1.2.2.2) (cond (x.op==9) (Ae true 0 0 0 (BP k0.1 k0.2.1 k0.2.2.1 k0.2.2.2 k1.1 k1.2.1 k1.2.2.1 k1.2.2.2)) (cond (x.op==10) (Ae true 0 0 0 (BP k0.1 k0.2.1 k0.2.2.1 k0.2.2.2 k1.1 k1.2.1 k1.2.2.1 k1.2.2.2)) (cond (x.op==11) (Ae true 0 0 0 (Gt k0.1 k0.2.1 k0.2.2.1 k0.2.2.2 k1.1 k1.2.1 k1.2.2.1 k1.2.2.2)) (cond (x.op==12) (Ae true 0 0 0 (BF [(k0.1,k0.2.1,k0.2.2.1,k0.2.2.2),(k1.1,k1.2.1,k1.2.2.1,k1.2.2.2)])) (cond (x.op==13) (Ae true 0 0 0 (BF [(k0.1,k0.2.1,k0.2.2.1,k0.2.2.2),(k1.1,k1.2.1,k1.2.2.1,k1.2.2.2)])) (cond (x.op==17) (Ae true 0 0 0 (BF [(k0.1,k0.2.1,k0.2.2.1,k0.2.2.2)])) (cond (x.op==16) (Ae k0.1 k0.2.1 k0.2.2.1 k0.2.2.2 (CV [(k0.1,k0.2.1,k0.2.2.1,k0.2.2.2)])) (cond (x.op==18) (cond (BF [(k0.1,k0.2.1,k0.2.2.1,k0.2.2.2)]==0) (Ae k1.1 k1.2.1 k1.2.2.1 k1.2.2.2 (Gt k1.1 k1.2.1 k1.2.2.1 k1.2.2.2 k2.1 k2.2.1 k2.2.2.1 k2.2.2.2)) (Ae k1.1 k1.2.1 k1.2.2.1 k1.2.2.2 (BF [(k0.1,k0.2.1,k0.2.2.1,k0.2.2.2)]))) (cond (x.op==19) (Ae k0.1 k0.2.1 k0.2.2.1 k0.2.2.2 (Dj k0.1 k0.2.1 k0.2.2.1 k0.2.2.2 x.mu x.hu x.du)) ((false,0,0,0,1))))))))))))))))))))))
abbrev JQ:=Bool×Int×Int×Int×Int
noncomputable def ACx:Code:=Tryz.f117.body.getD .skip
def AHK:=ν [.code ACx]
def AHJ:=ν (Au AHK)
def SD:=Ac 10 (AG AHJ)
def dT:=ν (SD)
def AEg:=Θ dT
def dS:=Ξ dT
def AEf:=Θ dS
def dR:=Ξ dS
def tL:=Θ dR
def AEe:=Ψ tL
def dQ:=Ξ dR
def tK:=Θ dQ
def tJ:=Θ tK
def AAb:=Ψ tJ
def WQ:=Ξ dQ
def kT:=Θ WQ
def AAa:=Ψ kT
def WP:=Ξ WQ
def kS:=Θ WP
def WO:=Ψ kS
def kR:=Θ WO
def kQ:=Ψ kR
def AAZ:=Ψ kQ
def kP:=Ξ WO
def AAY:=Ψ kP
def WN:=Ξ WP
def kO:=Θ WN
def kN:=Ac 30 (AE kO)
def AAX:=Ω kN
def WM:=Ξ WN
def kM:=Θ WM
def kL:=Ac 30 (AE kM)
def AAW:=Ω kL
def WL:=Ξ WM
def kK:=Θ WL
def kJ:=Ac 30 (AE kK)
def AAV:=Ω kJ
def WK:=Ξ WL
def kI:=Ac 30 (AE WK)
def AAU:=Ω kI
def WJ:=Ξ WK
def kH:=Θ WJ
def kG:=Θ kH
def AAT:=Ψ kG
def WI:=Ξ WJ
def kF:=Θ WI
def AAS:=Ψ kF
def WH:=Ξ WI
def kE:=Θ WH
def kD:=Ac 36 (AE kE)
def AAR:=Ω kD
def WG:=Ξ WH
def kC:=Ac 36 (AE WG)
def AAQ:=Ω kC
def WF:=Ξ WG
def kB:=Ac 38 (AE WF)
def AAP:=Ω kB
def WE:=Ξ WF
def j9:=Θ WE
def WD:=Ac 41 (AE j9)
def Pk:Array Oper:=(Da WD).getD #[]
def xG:Wr:=[(141,0),(142,1),(143,2),(144,3),(145,4),(146,5),(147,6),(148,7),(149,8),(150,9)]
def AAO:=Ω WD
def WC:=Ξ WE
def WB:=Ac 41 (AE WC)
def Mi:Array Oper:=(Da WB).getD #[]
def iN:Wr:=[(141,0),(142,1),(143,2),(144,3),(145,4),(146,5),(147,6),(148,7),(149,8),(150,9)]
def AAN:=Ω WB
def WA:=Ξ WC
def V9:=Ac 43 (AE WA)
def Pj:Array Oper:=(Da V9).getD #[]
def xF:Wr:=[(153,0),(154,1),(155,2),(156,3),(157,4),(158,5),(159,6),(160,7)]
def AAM:=Ω V9
def V8:=Ξ WA
def V7:=Ac 45 (AE V8)
def Pi:Array Oper:=(Da V7).getD #[]
def xE:Wr:=[(163,0),(164,1),(165,2),(166,3),(167,4),(168,5),(169,6),(170,7),(171,8)]
def AAL:=Ω V7
def V6:=Ξ V8
def j8:=Θ V6
def V5:=Ψ j8
def j7:=Θ V5
def j6:=Ψ j7
def AAK:=Ψ j6
def j5:=Ξ V5
def AAJ:=Ψ j5
def V4:=Ξ V6
def j4:=Ac 52 (AE V4)
def AAI:=Ω j4
def AAH:=Ξ V4
def KM (r:JQ):Value:=.tuple #[D [I (r.1),J (r.2.1),J (r.2.2.1),J (r.2.2.2.1)],J (r.2.2.2.2)]
theorem KN {R:Ending->World->Prop} (ns ss ps:List Df) (x:Ex) (a b k2:Bool×Int×Int×Int) (t0 r0 i0 pA:Option Addr) (w0 v0 q0 pk pc g2 g3 g4 z:Nat) (E0:Nat->Value) (w we:World) (r2:rowsDf w t0 ns) (v7:ns.length<=4294967296) (q2:rowsDf w r0 ss) (q7:ss.length<=4294967296) (m1:rowsDf w i0 ps) (u7:ps.length<=4294967296) (K:Wk w we [N g2 [V t0 ns.length w0,V r0 ss.length v0,V i0 ps.length q0] 174,N g3 [J x.op,J x.num,J x.den,J x.mu,J x.hu,J x.du,Y (x.nm),J x.cnt,J x.md,V pA pk pc] 70,N g4 [I false,J 0,J 0,J 0] 65,N z [I (a.1),J a.2.1,J a.2.2.1,J a.2.2.2,I (b.1),J b.2.1,J b.2.2.1,J b.2.2.2,I (k2.1),J k2.2.1,J k2.2.2.1,J k2.2.2.2] 185] [] []) (o:∀e w',(e=.returned (KM (DN ns ss ps x a b k2))/\Below (U w) w w')->R e w'):At Tryz.prog 117 R SD (Fr 204 (BN E0 [(2,Z g2),(3,Z g3),(4,Z g4),(6,Z z)])) we:=by
 refine An dT [N g2 [V t0 ns.length w0,V r0 ss.length v0,V i0 ps.length q0] 174,N g3 [J x.op,J x.num,J x.den,J x.mu,J x.hu,J x.du,Y (x.nm),J x.cnt,J x.md,V pA pk pc] 70,N g4 [I false,J 0,J 0,J 0] 65,N z [I (a.1),J a.2.1,J a.2.2.1,J a.2.2.2,I (b.1),J b.2.1,J b.2.2.1,J b.2.2.2,I (k2.1),J k2.2.1,J k2.2.2.1,J k2.2.2.2] 185,N (U we) [I true,J 0,J 0,J 0] 65] K [(4,0),(1,0)] λw1 K1=>?_;refine AH (x.op==1) (λy=>?_) (λy=>?_)
 ·refine Ar AEg K1 [(1,3),(2,0)] λw3 K2=>?_;exact AN K2 (2,0) (.tuple #[D [I false,J x.mu,J x.hu,J x.du],J 0]) (o _ _ ⟨by unfold DN;rw[y]<;>rfl,K2.B⟩)
 refine AC dS K1 [] λw4 K3=>?_;refine AH (x.op==2) (λc5=>?_) (λc5=>?_)
 ·refine Ar AEf K3 [(4,0),(2,0)] λw6 K4=>?_;exact AN K4 (2,0) (.tuple #[D [I true,J 0,J 0,J 0],J 0]) (o _ _ ⟨by unfold DN;rw[y,c5]<;>rfl,K4.B⟩)
 refine AC dR K3 [] λw7 K5=>?_;refine AH (x.op==3) (λc8=>?_) (λc8=>?_)
 ·refine AC tL K5 [(0,0),(1,6)] λw9 K6=>?_;refine AW K6 (M6 t0 ns w0 x.nm w9 (r2.below K6.B) (by first | assumption | omega | (simp<;>omega))) λw10 K7=>?_;refine Ar AEe K7 [(2,0)] λw11 K8=>?_;exact AN K8 (2,0) (Rk (CN ns x.nm)) (o _ _ ⟨by unfold DN;rw[y,c5,c8]<;>rfl,K8.B⟩)
 refine AC dQ K5 [] λw12 K9=>?_;refine AH (x.op==20) (λd=>?_) (λd=>?_)
 ·refine AC tK K9 [] λw14 za=>?_;refine AH (x.op==20) (λ_=>?_) (λh=>nomatch h.symm.trans d);refine AC tJ za [(0,2),(1,6)] λf7 a6=>?_;refine AW a6 (M6 i0 ps q0 x.nm f7 (m1.below a6.B) (by first | assumption | omega | (simp<;>omega))) λw17 xs=>?_;refine Ar AAb xs [(2,0)] λw18 w5=>?_;exact AN w5 (2,0) (Rk (CN ps x.nm)) (o _ _ ⟨by unfold DN;rw[y,c5,c8,d]<;>rfl,w5.B⟩)
 refine AC WQ K9 [] λw19 v5=>?_;refine AH (x.op==21) (λg=>?_) (λg=>?_)
 ·refine AC kT v5 [(0,2),(1,6)] λe7 u5=>?_;refine AW u5 (M6 i0 ps q0 x.nm e7 (m1.below u5.B) (by first | assumption | omega | (simp<;>omega))) λw22 xb=>?_;refine Ar AAa xb [(2,0)] λw23 t5=>?_;exact AN t5 (2,0) (Rk (CN ps x.nm)) (o _ _ ⟨by unfold DN;rw[y,c5,c8,d,g]<;>rfl,t5.B⟩)
 refine AC WP v5 [] λw24 q5=>?_;refine AH (x.op==4) (λj=>?_) (λj=>?_)
 ·refine AC kS q5 [(0,1),(1,6)] λc7 k5=>?_;refine AW k5 (M6 r0 ss v0 x.nm c7 (q2.below k5.B) (by first | assumption | omega | (simp<;>omega))) λw27 kx=>?_;refine Ar WO kx [(5,0)] λw28 g5=>?_;refine AH ((CN ss x.nm).2.2.2.2==0) (λv1=>?_) (λv1=>?_)
  ·refine AC kR g5 [(3,0)] λb7 kv=>?_;refine AW kv (LH a.1 a.2.1 a.2.2.1 a.2.2.2 0 0 0 b7) λw31 ks=>?_;refine AC kQ ks [(5,0)] λa7 kp=>?_;refine AW kp (Dd ((CN ss x.nm).1) ((CN ss x.nm).2.1) ((CN ss x.nm).2.2.1) ((CN ss x.nm).2.2.2.1) (Dj a.1 a.2.1 a.2.2.1 a.2.2.2 0 0 0) a7) λw33 kn=>?_;refine Ar AAZ kn [(2,0)] λw34 f5=>?_;exact AN f5 (2,0) (CJ (Ae ((CN ss x.nm).1) ((CN ss x.nm).2.1) ((CN ss x.nm).2.2.1) ((CN ss x.nm).2.2.2.1) (Dj a.1 a.2.1 a.2.2.1 a.2.2.2 0 0 0))) (o _ _ ⟨by unfold DN;rw[y,c5,c8,d,g,j,v1]<;>rfl,f5.B⟩)
  refine AC kP g5 [(5,0)] λv6 kl=>?_;refine AW kl (Dd ((CN ss x.nm).1) ((CN ss x.nm).2.1) ((CN ss x.nm).2.2.1) ((CN ss x.nm).2.2.2.1) ((CN ss x.nm).2.2.2.2) v6) λw36 kk=>?_;refine Ar AAY kk [(2,0)] λw37 e5=>?_;exact AN e5 (2,0) (CJ (Ae ((CN ss x.nm).1) ((CN ss x.nm).2.1) ((CN ss x.nm).2.2.1) ((CN ss x.nm).2.2.2.1) ((CN ss x.nm).2.2.2.2))) (o _ _ ⟨by unfold DN;rw[y,c5,c8,d,g,j,v1]<;>rfl,e5.B⟩)
 refine AC WN q5 [] λw38 b5=>?_;refine AH (x.op==5) (λl=>?_) (λl=>?_)
 ·refine AC kO b5 [] λw40 kd=>?_;refine AH (x.op==5) (λ_=>?_) (λh=>nomatch h.symm.trans l);refine Al 30 kN kd [] λw42 a5=>?_;refine Fh a5 [0,1,2,3,4,5,6,7,8,9] [(1,3,0),(3,3,0),(5,3,4)] [⟨6,[(96,D [I (a.1),J a.2.1,J a.2.2.1,J a.2.2.2]),(98,D [I (b.1),J b.2.1,J b.2.2.1,J b.2.2.2])],J (BP a.1 a.2.1 a.2.2.1 a.2.2.2 b.1 b.2.1 b.2.2.1 b.2.2.2),true⟩,⟨7,[(94,D [I (a.1),J a.2.1,J a.2.2.1,J a.2.2.2]),(99,J (BP a.1 a.2.1 a.2.2.1 a.2.2.2 b.1 b.2.1 b.2.2.1 b.2.2.2))],CJ (Ae a.1 a.2.1 a.2.2.1 a.2.2.2 (BP a.1 a.2.1 a.2.2.1 a.2.2.2 b.1 b.2.1 b.2.2.1 b.2.2.2)),true⟩] [(10,2,0),(11,0,0)] a5.G (λsp c=>?_) λz43 w43 kc=>?_
  ·simp only[mem_cons,not_mem_nil,or_false]at c;rcases c with rfl | rfl
   ·exact AU 138 [.tmp 96,.tmp 98] _ (λ_=>by kernel_rfl) λhc u hu=>AR hu (Fv a.1 a.2.1 a.2.2.1 a.2.2.2 b.1 b.2.1 b.2.2.1 b.2.2.2 u)
   exact AU 137 [.tmp 94,.tmp 99] _ (λ_=>by kernel_rfl) λhc u hu=>AR hu (Dd a.1 a.2.1 a.2.2.1 a.2.2.2 (BP a.1 a.2.1 a.2.2.1 a.2.2.2 b.1 b.2.1 b.2.2.1 b.2.2.2) u)
  refine AC AAX kc [] λw44 z4=>?_;exact AN z4 (2,0) (CJ (Ae a.1 a.2.1 a.2.2.1 a.2.2.2 (BP a.1 a.2.1 a.2.2.1 a.2.2.2 b.1 b.2.1 b.2.2.1 b.2.2.2))) (o _ _ ⟨by unfold DN;rw[y,c5,c8,d,g,j,l]<;>rfl,z4.B⟩)
 refine AC WM b5 [] λw45 v4=>?_;refine AH (x.op==6) (λm=>?_) (λm=>?_)
 ·refine AC kM v4 [] λw47 ka=>?_;refine AH (x.op==6) (λ_=>?_) (λh=>nomatch h.symm.trans m);refine Al 30 kL ka [] λw49 u4=>?_;refine Fh u4 [0,1,2,3,4,5,6,7,8,9] [(1,3,0),(3,3,0),(5,3,4)] [⟨6,[(96,D [I (a.1),J a.2.1,J a.2.2.1,J a.2.2.2]),(98,D [I (b.1),J b.2.1,J b.2.2.1,J b.2.2.2])],J (BP a.1 a.2.1 a.2.2.1 a.2.2.2 b.1 b.2.1 b.2.2.1 b.2.2.2),true⟩,⟨7,[(94,D [I (a.1),J a.2.1,J a.2.2.1,J a.2.2.2]),(99,J (BP a.1 a.2.1 a.2.2.1 a.2.2.2 b.1 b.2.1 b.2.2.1 b.2.2.2))],CJ (Ae a.1 a.2.1 a.2.2.1 a.2.2.2 (BP a.1 a.2.1 a.2.2.1 a.2.2.2 b.1 b.2.1 b.2.2.1 b.2.2.2)),true⟩] [(10,2,0),(11,0,0)] u4.G (λsp c=>?_) λz50 w50 qs=>?_
  ·simp only[mem_cons,not_mem_nil,or_false]at c;rcases c with rfl | rfl
   ·exact AU 138 [.tmp 96,.tmp 98] _ (λ_=>by kernel_rfl) λhc u hu=>AR hu (Fv a.1 a.2.1 a.2.2.1 a.2.2.2 b.1 b.2.1 b.2.2.1 b.2.2.2 u)
   exact AU 137 [.tmp 94,.tmp 99] _ (λ_=>by kernel_rfl) λhc u hu=>AR hu (Dd a.1 a.2.1 a.2.2.1 a.2.2.2 (BP a.1 a.2.1 a.2.2.1 a.2.2.2 b.1 b.2.1 b.2.2.1 b.2.2.2) u)
  refine AC AAW qs [] λw51 t4=>?_;exact AN t4 (2,0) (CJ (Ae a.1 a.2.1 a.2.2.1 a.2.2.2 (BP a.1 a.2.1 a.2.2.1 a.2.2.2 b.1 b.2.1 b.2.2.1 b.2.2.2))) (o _ _ ⟨by unfold DN;rw[y,c5,c8,d,g,j,l,m]<;>rfl,t4.B⟩)
 refine AC WL v4 [] λw52 q4=>?_;refine AH (x.op==14) (λn=>?_) (λn=>?_)
 ·refine AC kK q4 [] λw54 z9=>?_;refine AH (x.op==14) (λ_=>?_) (λh=>nomatch h.symm.trans n);refine Al 30 kJ z9 [] λw56 n4=>?_;refine Fh n4 [0,1,2,3,4,5,6,7,8,9] [(1,3,0),(3,3,0),(5,3,4)] [⟨6,[(96,D [I (a.1),J a.2.1,J a.2.2.1,J a.2.2.2]),(98,D [I (b.1),J b.2.1,J b.2.2.1,J b.2.2.2])],J (BP a.1 a.2.1 a.2.2.1 a.2.2.2 b.1 b.2.1 b.2.2.1 b.2.2.2),true⟩,⟨7,[(94,D [I (a.1),J a.2.1,J a.2.2.1,J a.2.2.2]),(99,J (BP a.1 a.2.1 a.2.2.1 a.2.2.2 b.1 b.2.1 b.2.2.1 b.2.2.2))],CJ (Ae a.1 a.2.1 a.2.2.1 a.2.2.2 (BP a.1 a.2.1 a.2.2.1 a.2.2.2 b.1 b.2.1 b.2.2.1 b.2.2.2)),true⟩] [(10,2,0),(11,0,0)] n4.G (λsp c=>?_) λz57 w57 v9=>?_
  ·simp only[mem_cons,not_mem_nil,or_false]at c;rcases c with rfl | rfl
   ·exact AU 138 [.tmp 96,.tmp 98] _ (λ_=>by kernel_rfl) λhc u hu=>AR hu (Fv a.1 a.2.1 a.2.2.1 a.2.2.2 b.1 b.2.1 b.2.2.1 b.2.2.2 u)
   exact AU 137 [.tmp 94,.tmp 99] _ (λ_=>by kernel_rfl) λhc u hu=>AR hu (Dd a.1 a.2.1 a.2.2.1 a.2.2.2 (BP a.1 a.2.1 a.2.2.1 a.2.2.2 b.1 b.2.1 b.2.2.1 b.2.2.2) u)
  refine AC AAV v9 [] λw58 k4=>?_;exact AN k4 (2,0) (CJ (Ae a.1 a.2.1 a.2.2.1 a.2.2.2 (BP a.1 a.2.1 a.2.2.1 a.2.2.2 b.1 b.2.1 b.2.2.1 b.2.2.2))) (o _ _ ⟨by unfold DN;rw[y,c5,c8,d,g,j,l,m,n]<;>rfl,k4.B⟩)
 refine AC WK q4 [] λw59 e4=>?_;refine AH (x.op==15) (λq=>?_) (λq=>?_)
 ·refine Al 30 kI e4 [] λw61 c4=>?_;refine Fh c4 [0,1,2,3,4,5,6,7,8,9] [(1,3,0),(3,3,0),(5,3,4)] [⟨6,[(96,D [I (a.1),J a.2.1,J a.2.2.1,J a.2.2.2]),(98,D [I (b.1),J b.2.1,J b.2.2.1,J b.2.2.2])],J (BP a.1 a.2.1 a.2.2.1 a.2.2.2 b.1 b.2.1 b.2.2.1 b.2.2.2),true⟩,⟨7,[(94,D [I (a.1),J a.2.1,J a.2.2.1,J a.2.2.2]),(99,J (BP a.1 a.2.1 a.2.2.1 a.2.2.2 b.1 b.2.1 b.2.2.1 b.2.2.2))],CJ (Ae a.1 a.2.1 a.2.2.1 a.2.2.2 (BP a.1 a.2.1 a.2.2.1 a.2.2.2 b.1 b.2.1 b.2.2.1 b.2.2.2)),true⟩] [(10,2,0),(11,0,0)] c4.G (λsp c=>?_) λz62 w62 u9=>?_
  ·simp only[mem_cons,not_mem_nil,or_false]at c;rcases c with rfl | rfl
   ·exact AU 138 [.tmp 96,.tmp 98] _ (λ_=>by kernel_rfl) λhc u hu=>AR hu (Fv a.1 a.2.1 a.2.2.1 a.2.2.2 b.1 b.2.1 b.2.2.1 b.2.2.2 u)
   exact AU 137 [.tmp 94,.tmp 99] _ (λ_=>by kernel_rfl) λhc u hu=>AR hu (Dd a.1 a.2.1 a.2.2.1 a.2.2.2 (BP a.1 a.2.1 a.2.2.1 a.2.2.2 b.1 b.2.1 b.2.2.1 b.2.2.2) u)
  refine AC AAU u9 [] λw63 b4=>?_;exact AN b4 (2,0) (CJ (Ae a.1 a.2.1 a.2.2.1 a.2.2.2 (BP a.1 a.2.1 a.2.2.1 a.2.2.2 b.1 b.2.1 b.2.2.1 b.2.2.2))) (o _ _ ⟨by unfold DN;rw[y,c5,c8,d,g,j,l,m,n,q]<;>rfl,b4.B⟩)
 refine AC WJ e4 [] λw64 a4=>?_;refine AH (x.op==7) (λp=>?_) (λp=>?_)
 ·refine AC kH a4 [] λw66 t9=>?_;refine AH (x.op==7) (λ_=>?_) (λh=>nomatch h.symm.trans p);refine AC kG t9 [(1,0),(3,0),(3,4)] λu6 r9=>?_;refine AW r9 (PB x.op a.1 a.2.1 a.2.2.1 a.2.2.2 b.1 b.2.1 b.2.2.1 b.2.2.2 u6) λw69 q9=>?_;refine Ar AAT q9 [(2,0)] λw70 z3=>?_;exact AN z3 (2,0) (Ns (GX x.op a.1 a.2.1 a.2.2.1 a.2.2.2 b.1 b.2.1 b.2.2.1 b.2.2.2)) (o _ _ ⟨by unfold DN;rw[y,c5,c8,d,g,j,l,m,n,q,p]<;>rfl,z3.B⟩)
 refine AC WI a4 [] λw71 y3=>?_;refine AH (x.op==8) (λs=>?_) (λs=>?_)
 ·refine AC kF y3 [(1,0),(3,0),(3,4)] λt6 o9=>?_;refine AW o9 (PB x.op a.1 a.2.1 a.2.2.1 a.2.2.2 b.1 b.2.1 b.2.2.1 b.2.2.2 t6) λw74 n9=>?_;refine Ar AAS n9 [(2,0)] λw75 v3=>?_;exact AN v3 (2,0) (Ns (GX x.op a.1 a.2.1 a.2.2.1 a.2.2.2 b.1 b.2.1 b.2.2.1 b.2.2.2)) (o _ _ ⟨by unfold DN;rw[y,c5,c8,d,g,j,l,m,n,q,p,s]<;>rfl,v3.B⟩)
 refine AC WH y3 [] λw76 u3=>?_;refine AH (x.op==9) (λr=>?_) (λr=>?_)
 ·refine AC kE u3 [] λw78 k9=>?_;refine AH (x.op==9) (λ_=>?_) (λh=>nomatch h.symm.trans r);refine Al 36 kD k9 [] λw80 t3=>?_;refine Fh t3 [0,1,2,3,4,5,6,7,8] [(0,4,0),(2,3,0),(4,3,4)] [⟨5,[(120,D [I (a.1),J a.2.1,J a.2.2.1,J a.2.2.2]),(122,D [I (b.1),J b.2.1,J b.2.2.1,J b.2.2.2])],J (BP a.1 a.2.1 a.2.2.1 a.2.2.2 b.1 b.2.1 b.2.2.1 b.2.2.2),true⟩,⟨6,[(118,D [I true,J 0,J 0,J 0]),(123,J (BP a.1 a.2.1 a.2.2.1 a.2.2.2 b.1 b.2.1 b.2.2.1 b.2.2.2))],CJ (Ae true 0 0 0 (BP a.1 a.2.1 a.2.2.1 a.2.2.2 b.1 b.2.1 b.2.2.1 b.2.2.2)),true⟩] [(9,2,0),(10,0,0)] t3.G (λsp c=>?_) λz81 w81 h9=>?_
  ·simp only[mem_cons,not_mem_nil,or_false]at c;rcases c with rfl | rfl
   ·exact AU 138 [.tmp 120,.tmp 122] _ (λ_=>by kernel_rfl) λhc u hu=>AR hu (Fv a.1 a.2.1 a.2.2.1 a.2.2.2 b.1 b.2.1 b.2.2.1 b.2.2.2 u)
   exact AU 137 [.tmp 118,.tmp 123] _ (λ_=>by kernel_rfl) λhc u hu=>AR hu (Dd true 0 0 0 (BP a.1 a.2.1 a.2.2.1 a.2.2.2 b.1 b.2.1 b.2.2.1 b.2.2.2) u)
  refine AC AAR h9 [] λw82 r3=>?_;exact AN r3 (2,0) (CJ (Ae true 0 0 0 (BP a.1 a.2.1 a.2.2.1 a.2.2.2 b.1 b.2.1 b.2.2.1 b.2.2.2))) (o _ _ ⟨by unfold DN;rw[y,c5,c8,d,g,j,l,m,n,q,p,s,r]<;>rfl,r3.B⟩)
 refine AC WG u3 [] λw83 q3=>?_;refine AH (x.op==10) (λb0=>?_) (λb0=>?_)
 ·refine Al 36 kC q3 [] λw85 p3=>?_;refine Fh p3 [0,1,2,3,4,5,6,7,8] [(0,4,0),(2,3,0),(4,3,4)] [⟨5,[(120,D [I (a.1),J a.2.1,J a.2.2.1,J a.2.2.2]),(122,D [I (b.1),J b.2.1,J b.2.2.1,J b.2.2.2])],J (BP a.1 a.2.1 a.2.2.1 a.2.2.2 b.1 b.2.1 b.2.2.1 b.2.2.2),true⟩,⟨6,[(118,D [I true,J 0,J 0,J 0]),(123,J (BP a.1 a.2.1 a.2.2.1 a.2.2.2 b.1 b.2.1 b.2.2.1 b.2.2.2))],CJ (Ae true 0 0 0 (BP a.1 a.2.1 a.2.2.1 a.2.2.2 b.1 b.2.1 b.2.2.1 b.2.2.2)),true⟩] [(9,2,0),(10,0,0)] p3.G (λsp c=>?_) λz86 w86 g9=>?_
  ·simp only[mem_cons,not_mem_nil,or_false]at c;rcases c with rfl | rfl
   ·exact AU 138 [.tmp 120,.tmp 122] _ (λ_=>by kernel_rfl) λhc u hu=>AR hu (Fv a.1 a.2.1 a.2.2.1 a.2.2.2 b.1 b.2.1 b.2.2.1 b.2.2.2 u)
   exact AU 137 [.tmp 118,.tmp 123] _ (λ_=>by kernel_rfl) λhc u hu=>AR hu (Dd true 0 0 0 (BP a.1 a.2.1 a.2.2.1 a.2.2.2 b.1 b.2.1 b.2.2.1 b.2.2.2) u)
  refine AC AAQ g9 [] λw87 o3=>?_;exact AN o3 (2,0) (CJ (Ae true 0 0 0 (BP a.1 a.2.1 a.2.2.1 a.2.2.2 b.1 b.2.1 b.2.2.1 b.2.2.2))) (o _ _ ⟨by unfold DN;rw[y,c5,c8,d,g,j,l,m,n,q,p,s,r,b0]<;>rfl,o3.B⟩)
 refine AC WF q3 [] λw88 n3=>?_;refine AH (x.op==11) (λe0=>?_) (λe0=>?_)
 ·refine Al 38 kB n3 [] λw90 m3=>?_;refine Fh m3 [0,1,2,3,4,5,6,7,8] [(0,4,0),(2,3,0),(4,3,4)] [⟨5,[(131,D [I (a.1),J a.2.1,J a.2.2.1,J a.2.2.2]),(133,D [I (b.1),J b.2.1,J b.2.2.1,J b.2.2.2])],J (Gt a.1 a.2.1 a.2.2.1 a.2.2.2 b.1 b.2.1 b.2.2.1 b.2.2.2),true⟩,⟨6,[(129,D [I true,J 0,J 0,J 0]),(134,J (Gt a.1 a.2.1 a.2.2.1 a.2.2.2 b.1 b.2.1 b.2.2.1 b.2.2.2))],CJ (Ae true 0 0 0 (Gt a.1 a.2.1 a.2.2.1 a.2.2.2 b.1 b.2.1 b.2.2.1 b.2.2.2)),true⟩] [(9,2,0),(10,0,0)] m3.G (λsp c=>?_) λz91 w91 f9=>?_
  ·simp only[mem_cons,not_mem_nil,or_false]at c;rcases c with rfl | rfl
   ·exact AU 140 [.tmp 131,.tmp 133] _ (λ_=>by kernel_rfl) λhc u hu=>AR hu (TY a.1 a.2.1 a.2.2.1 a.2.2.2 b.1 b.2.1 b.2.2.1 b.2.2.2 u)
   exact AU 137 [.tmp 129,.tmp 134] _ (λ_=>by kernel_rfl) λhc u hu=>AR hu (Dd true 0 0 0 (Gt a.1 a.2.1 a.2.2.1 a.2.2.2 b.1 b.2.1 b.2.2.1 b.2.2.2) u)
  refine AC AAP f9 [] λw92 l3=>?_;exact AN l3 (2,0) (CJ (Ae true 0 0 0 (Gt a.1 a.2.1 a.2.2.1 a.2.2.2 b.1 b.2.1 b.2.2.1 b.2.2.2))) (o _ _ ⟨by unfold DN;rw[y,c5,c8,d,g,j,l,m,n,q,p,s,r,b0,e0]<;>rfl,l3.B⟩)
 refine AC WE n3 [] λw93 k3=>?_;refine AH (x.op==12) (λd0=>?_) (λd0=>?_)
 ·refine AC j9 k3 [] λw95 c9=>?_;refine AH (x.op==12) (λ_=>?_) (λh=>nomatch h.symm.trans d0);refine Al 41 WD c9 [] λg1 l1=>?_;refine DK Pk 12 ?_;refine Cm (md:=.any) (fuel:=2) (L:=[Av 0 [] (D [I true,J 0,J 0,J 0]),Av 1 [] (Z z),Av 2 [1] (D [I (a.1),J a.2.1,J a.2.2.1,J a.2.2.2]),Av 3 [] (.pointer (some ⟨z,4,none⟩)),Av 4 [3] (D [I (b.1),J b.2.1,J b.2.2.1,J b.2.2.2]),⟨5,[2,4],[5],Kw 2 4 [[I (a.1),J a.2.1,J a.2.2.1,J a.2.2.2],[I (b.1),J b.2.1,J b.2.2.1,J b.2.2.2]]⟩,Av 6 [5] (J (BF [(a.1,a.2.1,a.2.2.1,a.2.2.2),(b.1,b.2.1,b.2.2.1,b.2.2.2)])),Av 7 [0,6] (CJ (Ae true 0 0 0 (BF [(a.1,a.2.1,a.2.2.1,a.2.2.2),(b.1,b.2.1,b.2.2.1,b.2.2.2)]))),Av 8 [7] (D [I ((Ae true 0 0 0 (BF [(a.1,a.2.1,a.2.2.1,a.2.2.2),(b.1,b.2.1,b.2.2.1,b.2.2.2)])).1),J ((Ae true 0 0 0 (BF [(a.1,a.2.1,a.2.2.1,a.2.2.2),(b.1,b.2.1,b.2.2.1,b.2.2.2)])).2.1),J ((Ae true 0 0 0 (BF [(a.1,a.2.1,a.2.2.1,a.2.2.2),(b.1,b.2.1,b.2.2.1,b.2.2.2)])).2.2.1),J ((Ae true 0 0 0 (BF [(a.1,a.2.1,a.2.2.1,a.2.2.2),(b.1,b.2.1,b.2.2.1,b.2.2.2)])).2.2.2.1)]),Av 9 [7] (J ((Ae true 0 0 0 (BF [(a.1,a.2.1,a.2.2.1,a.2.2.2),(b.1,b.2.1,b.2.2.1,b.2.2.2)])).2.2.2.2))]) (W:=xG) (C:=λu=>Below (U g1) g1 u) (Ext:=Cy) (Below.refl _ _).drew Cy.refl (λ_ _ _=>Cy.trans) ⟨?_,?_,?_,?_,?_,?_,?_,?_,?_,?_,trivial⟩ rfl ?_
  ·refine⟨λ_ _ _ _ _ h=>h,λvals u hu hb=>?_⟩;exact AL.knownE [] trivial (AL.reads ⟨0,_,(4,0),[]⟩ (BG l1.G hu) (D [I true,J 0,J 0,J 0]) ⟨hu,.refl _,rfl⟩)
  ·refine⟨λ_ _ _ _ _ h=>h,λvals u hu hb=>?_⟩;exact AL.knownE [] trivial (AL.reads ⟨0,[],(0,0),[]⟩ (λe he=>by cases he) (Z z) ⟨hu,.refl _,rfl⟩)
  ·refine⟨λ_ _ _ _ _ h=>h,λvals u hu hb=>?_⟩;obtain⟨h1,_⟩:=hb;exact AL.knownE [(142,1,Z z)] ⟨(List.cons.inj h1).1,trivial⟩ (AL.reads ⟨0,_,(3,0),[]⟩ (BG l1.G hu) (D [I (a.1),J a.2.1,J a.2.2.1,J a.2.2.2]) ⟨hu,.refl _,rfl⟩)
  ·refine⟨λ_ _ _ _ _ h=>h,λvals u hu hb=>?_⟩;exact AL.knownE [] trivial (AL.reads ⟨0,[],(0,0),[]⟩ (λe he=>by cases he) (.pointer (some ⟨z,4,none⟩)) ⟨hu,.refl _,rfl⟩)
  ·refine⟨λ_ _ _ _ _ h=>h,λvals u hu hb=>?_⟩;obtain⟨h3,_⟩:=hb;exact AL.knownE [(144,3,.pointer (some ⟨z,4,none⟩))] ⟨(List.cons.inj h3).1,trivial⟩ (AL.reads ⟨0,_,(3,4),[]⟩ (BG l1.G hu) (D [I (b.1),J b.2.1,J b.2.2.1,J b.2.2.2]) ⟨hu,.refl _,rfl⟩)
  ·refine⟨λ_ _ _ _ he h=>h.keep he,λvals u hu hb=>?_⟩;obtain⟨h2,h4,_⟩:=hb;refine AL.knownE [(143,2,D [I (a.1),J a.2.1,J a.2.2.1,J a.2.2.2]),(145,4,D [I (b.1),J b.2.1,J b.2.2.1,J b.2.2.2])] ⟨(List.cons.inj h2).1,(List.cons.inj h4).1,trivial⟩ (AL.runsK ⟨U u,[],(0,0),[]⟩ ⟨U u+1,[N (U u) [I (a.1),J a.2.1,J a.2.2.1,J a.2.2.2,I (b.1),J b.2.1,J b.2.2.1,J b.2.2.2] 65],(0,0),[]⟩ (.value (V (some ⟨U u,0,none⟩) 2 2)) (V (some ⟨U u,0,none⟩) 2 2) (.inl rfl) (CQ u) rfl λu2 hL hK=>?_);have Bq:Below (U u) u u2:=hK.below (Nat.le_refl _) (λk o=>by cases o);exact⟨hu.trans (Bq.mono hu.size),Bq,⟨_,rfl,Db (rs:=[[I (a.1),J a.2.1,J a.2.2.1,J a.2.2.2],[I (b.1),J b.2.1,J b.2.2.1,J b.2.2.2]]) (by simp) (hL.sat.good _ (mem_singleton.2 rfl))⟩⟩
  ·refine⟨λ_ _ _ _ _ h=>h,λvals u hu hb=>?_⟩;obtain⟨h5,_⟩:=hb;obtain⟨a1,z0,t1⟩:=h5;refine AL.knownE [(146,5,φ a1 2 2)] ⟨(List.cons.inj z0).1,trivial⟩ (AL.call (f:=141) [.tmp 146] (ats:=#[75]) rfl (Cf _ _) ((Lo (θ a1) [(a.1,a.2.1,a.2.2.1,a.2.2.2),(b.1,b.2.1,b.2.2.1,b.2.2.2)] 2 u t1 (by first | assumption | omega | (simp<;>omega))).mono λen u2 hh=>?_));obtain⟨rfl,bb⟩:=hh;exact⟨_,rfl,hu.trans (bb.mono hu.size),bb,rfl⟩
  ·refine⟨λ_ _ _ _ _ h=>h,λvals u hu hb=>?_⟩;obtain⟨h0,h6,_⟩:=hb;refine AL.knownE [(141,0,D [I true,J 0,J 0,J 0]),(147,6,J (BF [(a.1,a.2.1,a.2.2.1,a.2.2.2),(b.1,b.2.1,b.2.2.1,b.2.2.2)]))] ⟨(List.cons.inj h0).1,(List.cons.inj h6).1,trivial⟩ (AL.call (f:=137) [.tmp 141,.tmp 147] (ats:=#[65,34]) rfl (Cf _ _) ((Dd true 0 0 0 (BF [(a.1,a.2.1,a.2.2.1,a.2.2.2),(b.1,b.2.1,b.2.2.1,b.2.2.2)]) u).mono λen u2 hh=>?_));obtain⟨rfl,bb⟩:=hh;exact⟨_,rfl,hu.trans (bb.mono hu.size),bb,rfl⟩
  ·refine⟨λ_ _ _ _ _ h=>h,λvals u hu hb=>?_⟩;obtain⟨h7,_⟩:=hb;exact AL.knownE [(148,7,CJ (Ae true 0 0 0 (BF [(a.1,a.2.1,a.2.2.1,a.2.2.2),(b.1,b.2.1,b.2.2.1,b.2.2.2)])))] ⟨(List.cons.inj h7).1,trivial⟩ (AL.reads ⟨0,[],(0,0),[]⟩ (λe he=>by cases he) (D [I ((Ae true 0 0 0 (BF [(a.1,a.2.1,a.2.2.1,a.2.2.2),(b.1,b.2.1,b.2.2.1,b.2.2.2)])).1),J ((Ae true 0 0 0 (BF [(a.1,a.2.1,a.2.2.1,a.2.2.2),(b.1,b.2.1,b.2.2.1,b.2.2.2)])).2.1),J ((Ae true 0 0 0 (BF [(a.1,a.2.1,a.2.2.1,a.2.2.2),(b.1,b.2.1,b.2.2.1,b.2.2.2)])).2.2.1),J ((Ae true 0 0 0 (BF [(a.1,a.2.1,a.2.2.1,a.2.2.2),(b.1,b.2.1,b.2.2.1,b.2.2.2)])).2.2.2.1)]) ⟨hu,.refl _,rfl⟩)
  ·refine⟨λ_ _ _ _ _ h=>h,λvals u hu hb=>?_⟩;obtain⟨h7,_⟩:=hb;exact AL.knownE [(148,7,CJ (Ae true 0 0 0 (BF [(a.1,a.2.1,a.2.2.1,a.2.2.2),(b.1,b.2.1,b.2.2.1,b.2.2.2)])))] ⟨(List.cons.inj h7).1,trivial⟩ (AL.reads ⟨0,[],(0,0),[]⟩ (λe he=>by cases he) (J ((Ae true 0 0 0 (BF [(a.1,a.2.1,a.2.2.1,a.2.2.2),(b.1,b.2.1,b.2.2.1,b.2.2.2)])).2.2.2.2)) ⟨hu,.refl _,rfl⟩)
  intro vals q6 y1 _ a0;replace y1:Below (U g1) g1 q6:=y1;obtain⟨x0,x1,x2,x3,x4,x5,x6,x7,x8,x9,_⟩:=a0;have b9:=l1.below y1;refine Bk [(4,Z g4),(149,vals 8),(150,vals 9)] λE98=>?_;rw[show vals 8=D [I ((Ae true 0 0 0 (BF [(a.1,a.2.1,a.2.2.1,a.2.2.2),(b.1,b.2.1,b.2.2.1,b.2.2.2)])).1),J ((Ae true 0 0 0 (BF [(a.1,a.2.1,a.2.2.1,a.2.2.2),(b.1,b.2.1,b.2.2.1,b.2.2.2)])).2.1),J ((Ae true 0 0 0 (BF [(a.1,a.2.1,a.2.2.1,a.2.2.2),(b.1,b.2.1,b.2.2.1,b.2.2.2)])).2.2.1),J ((Ae true 0 0 0 (BF [(a.1,a.2.1,a.2.2.1,a.2.2.2),(b.1,b.2.1,b.2.2.1,b.2.2.2)])).2.2.2.1)]from(List.cons.inj x8).1];rw[show vals 9=J ((Ae true 0 0 0 (BF [(a.1,a.2.1,a.2.2.1,a.2.2.2),(b.1,b.2.1,b.2.2.1,b.2.2.2)])).2.2.2.2)from(List.cons.inj x9).1];refine Dy (i:=10) b9 (Pk.getD 10 default) (2,0) (undef) λw99 a9=>?_;refine Dy (i:=11) a9 (Pk.getD 11 default) (0,0) (J ((Ae true 0 0 0 (BF [(a.1,a.2.1,a.2.2.1,a.2.2.2),(b.1,b.2.1,b.2.2.1,b.2.2.2)])).2.2.2.2)) λw100 w8=>?_;refine Dm ⟨rfl,At.mid ?_⟩;refine AC AAO w8 [] λw101 i3=>?_;exact AN i3 (2,0) (CJ (Ae true 0 0 0 (BF [(a.1,a.2.1,a.2.2.1,a.2.2.2),(b.1,b.2.1,b.2.2.1,b.2.2.2)]))) (o _ _ ⟨by unfold DN;rw[y,c5,c8,d,g,j,l,m,n,q,p,s,r,b0,e0,d0]<;>rfl,i3.B⟩)
 refine AC WC k3 [] λw102 f3=>?_;refine AH (x.op==13) (λv=>?_) (λv=>?_)
 ·refine Al 41 WB f3 [] λp0 i1=>?_;refine DK Mi 12 ?_;refine Cm (md:=.any) (fuel:=2) (L:=[Av 0 [] (D [I true,J 0,J 0,J 0]),Av 1 [] (Z z),Av 2 [1] (D [I (a.1),J a.2.1,J a.2.2.1,J a.2.2.2]),Av 3 [] (.pointer (some ⟨z,4,none⟩)),Av 4 [3] (D [I (b.1),J b.2.1,J b.2.2.1,J b.2.2.2]),⟨5,[2,4],[5],Kw 2 4 [[I (a.1),J a.2.1,J a.2.2.1,J a.2.2.2],[I (b.1),J b.2.1,J b.2.2.1,J b.2.2.2]]⟩,Av 6 [5] (J (BF [(a.1,a.2.1,a.2.2.1,a.2.2.2),(b.1,b.2.1,b.2.2.1,b.2.2.2)])),Av 7 [0,6] (CJ (Ae true 0 0 0 (BF [(a.1,a.2.1,a.2.2.1,a.2.2.2),(b.1,b.2.1,b.2.2.1,b.2.2.2)]))),Av 8 [7] (D [I ((Ae true 0 0 0 (BF [(a.1,a.2.1,a.2.2.1,a.2.2.2),(b.1,b.2.1,b.2.2.1,b.2.2.2)])).1),J ((Ae true 0 0 0 (BF [(a.1,a.2.1,a.2.2.1,a.2.2.2),(b.1,b.2.1,b.2.2.1,b.2.2.2)])).2.1),J ((Ae true 0 0 0 (BF [(a.1,a.2.1,a.2.2.1,a.2.2.2),(b.1,b.2.1,b.2.2.1,b.2.2.2)])).2.2.1),J ((Ae true 0 0 0 (BF [(a.1,a.2.1,a.2.2.1,a.2.2.2),(b.1,b.2.1,b.2.2.1,b.2.2.2)])).2.2.2.1)]),Av 9 [7] (J ((Ae true 0 0 0 (BF [(a.1,a.2.1,a.2.2.1,a.2.2.2),(b.1,b.2.1,b.2.2.1,b.2.2.2)])).2.2.2.2))]) (W:=iN) (C:=λu=>Below (U p0) p0 u) (Ext:=Cy) (Below.refl _ _).drew Cy.refl (λ_ _ _=>Cy.trans) ⟨?_,?_,?_,?_,?_,?_,?_,?_,?_,?_,trivial⟩ rfl ?_
  ·refine⟨λ_ _ _ _ _ h=>h,λvals u hu hb=>?_⟩;exact AL.knownE [] trivial (AL.reads ⟨0,_,(4,0),[]⟩ (BG i1.G hu) (D [I true,J 0,J 0,J 0]) ⟨hu,.refl _,rfl⟩)
  ·refine⟨λ_ _ _ _ _ h=>h,λvals u hu hb=>?_⟩;exact AL.knownE [] trivial (AL.reads ⟨0,[],(0,0),[]⟩ (λe he=>by cases he) (Z z) ⟨hu,.refl _,rfl⟩)
  ·refine⟨λ_ _ _ _ _ h=>h,λvals u hu hb=>?_⟩;obtain⟨h1,_⟩:=hb;exact AL.knownE [(142,1,Z z)] ⟨(List.cons.inj h1).1,trivial⟩ (AL.reads ⟨0,_,(3,0),[]⟩ (BG i1.G hu) (D [I (a.1),J a.2.1,J a.2.2.1,J a.2.2.2]) ⟨hu,.refl _,rfl⟩)
  ·refine⟨λ_ _ _ _ _ h=>h,λvals u hu hb=>?_⟩;exact AL.knownE [] trivial (AL.reads ⟨0,[],(0,0),[]⟩ (λe he=>by cases he) (.pointer (some ⟨z,4,none⟩)) ⟨hu,.refl _,rfl⟩)
  ·refine⟨λ_ _ _ _ _ h=>h,λvals u hu hb=>?_⟩;obtain⟨h3,_⟩:=hb;exact AL.knownE [(144,3,.pointer (some ⟨z,4,none⟩))] ⟨(List.cons.inj h3).1,trivial⟩ (AL.reads ⟨0,_,(3,4),[]⟩ (BG i1.G hu) (D [I (b.1),J b.2.1,J b.2.2.1,J b.2.2.2]) ⟨hu,.refl _,rfl⟩)
  ·refine⟨λ_ _ _ _ he h=>h.keep he,λvals u hu hb=>?_⟩;obtain⟨h2,h4,_⟩:=hb;refine AL.knownE [(143,2,D [I (a.1),J a.2.1,J a.2.2.1,J a.2.2.2]),(145,4,D [I (b.1),J b.2.1,J b.2.2.1,J b.2.2.2])] ⟨(List.cons.inj h2).1,(List.cons.inj h4).1,trivial⟩ (AL.runsK ⟨U u,[],(0,0),[]⟩ ⟨U u+1,[N (U u) [I (a.1),J a.2.1,J a.2.2.1,J a.2.2.2,I (b.1),J b.2.1,J b.2.2.1,J b.2.2.2] 65],(0,0),[]⟩ (.value (V (some ⟨U u,0,none⟩) 2 2)) (V (some ⟨U u,0,none⟩) 2 2) (.inl rfl) (CQ u) rfl λu2 hL hK=>?_);have Bq:Below (U u) u u2:=hK.below (Nat.le_refl _) (λk o=>by cases o);exact⟨hu.trans (Bq.mono hu.size),Bq,⟨_,rfl,Db (rs:=[[I (a.1),J a.2.1,J a.2.2.1,J a.2.2.2],[I (b.1),J b.2.1,J b.2.2.1,J b.2.2.2]]) (by simp) (hL.sat.good _ (mem_singleton.2 rfl))⟩⟩
  ·refine⟨λ_ _ _ _ _ h=>h,λvals u hu hb=>?_⟩;obtain⟨h5,_⟩:=hb;obtain⟨a1,z0,t1⟩:=h5;refine AL.knownE [(146,5,φ a1 2 2)] ⟨(List.cons.inj z0).1,trivial⟩ (AL.call (f:=141) [.tmp 146] (ats:=#[75]) rfl (Cf _ _) ((Lo (θ a1) [(a.1,a.2.1,a.2.2.1,a.2.2.2),(b.1,b.2.1,b.2.2.1,b.2.2.2)] 2 u t1 (by first | assumption | omega | (simp<;>omega))).mono λen u2 hh=>?_));obtain⟨rfl,bb⟩:=hh;exact⟨_,rfl,hu.trans (bb.mono hu.size),bb,rfl⟩
  ·refine⟨λ_ _ _ _ _ h=>h,λvals u hu hb=>?_⟩;obtain⟨h0,h6,_⟩:=hb;refine AL.knownE [(141,0,D [I true,J 0,J 0,J 0]),(147,6,J (BF [(a.1,a.2.1,a.2.2.1,a.2.2.2),(b.1,b.2.1,b.2.2.1,b.2.2.2)]))] ⟨(List.cons.inj h0).1,(List.cons.inj h6).1,trivial⟩ (AL.call (f:=137) [.tmp 141,.tmp 147] (ats:=#[65,34]) rfl (Cf _ _) ((Dd true 0 0 0 (BF [(a.1,a.2.1,a.2.2.1,a.2.2.2),(b.1,b.2.1,b.2.2.1,b.2.2.2)]) u).mono λen u2 hh=>?_));obtain⟨rfl,bb⟩:=hh;exact⟨_,rfl,hu.trans (bb.mono hu.size),bb,rfl⟩
  ·refine⟨λ_ _ _ _ _ h=>h,λvals u hu hb=>?_⟩;obtain⟨h7,_⟩:=hb;exact AL.knownE [(148,7,CJ (Ae true 0 0 0 (BF [(a.1,a.2.1,a.2.2.1,a.2.2.2),(b.1,b.2.1,b.2.2.1,b.2.2.2)])))] ⟨(List.cons.inj h7).1,trivial⟩ (AL.reads ⟨0,[],(0,0),[]⟩ (λe he=>by cases he) (D [I ((Ae true 0 0 0 (BF [(a.1,a.2.1,a.2.2.1,a.2.2.2),(b.1,b.2.1,b.2.2.1,b.2.2.2)])).1),J ((Ae true 0 0 0 (BF [(a.1,a.2.1,a.2.2.1,a.2.2.2),(b.1,b.2.1,b.2.2.1,b.2.2.2)])).2.1),J ((Ae true 0 0 0 (BF [(a.1,a.2.1,a.2.2.1,a.2.2.2),(b.1,b.2.1,b.2.2.1,b.2.2.2)])).2.2.1),J ((Ae true 0 0 0 (BF [(a.1,a.2.1,a.2.2.1,a.2.2.2),(b.1,b.2.1,b.2.2.1,b.2.2.2)])).2.2.2.1)]) ⟨hu,.refl _,rfl⟩)
  ·refine⟨λ_ _ _ _ _ h=>h,λvals u hu hb=>?_⟩;obtain⟨h7,_⟩:=hb;exact AL.knownE [(148,7,CJ (Ae true 0 0 0 (BF [(a.1,a.2.1,a.2.2.1,a.2.2.2),(b.1,b.2.1,b.2.2.1,b.2.2.2)])))] ⟨(List.cons.inj h7).1,trivial⟩ (AL.reads ⟨0,[],(0,0),[]⟩ (λe he=>by cases he) (J ((Ae true 0 0 0 (BF [(a.1,a.2.1,a.2.2.1,a.2.2.2),(b.1,b.2.1,b.2.2.1,b.2.2.2)])).2.2.2.2)) ⟨hu,.refl _,rfl⟩)
  intro vals n2 f1 _ a0;replace f1:Below (U p0) p0 n2:=f1;obtain⟨x0,x1,x2,x3,x4,x5,x6,x7,x8,x9,_⟩:=a0;have v8:=i1.below f1;refine Bk [(4,Z g4),(149,vals 8),(150,vals 9)] λE105=>?_;rw[show vals 8=D [I ((Ae true 0 0 0 (BF [(a.1,a.2.1,a.2.2.1,a.2.2.2),(b.1,b.2.1,b.2.2.1,b.2.2.2)])).1),J ((Ae true 0 0 0 (BF [(a.1,a.2.1,a.2.2.1,a.2.2.2),(b.1,b.2.1,b.2.2.1,b.2.2.2)])).2.1),J ((Ae true 0 0 0 (BF [(a.1,a.2.1,a.2.2.1,a.2.2.2),(b.1,b.2.1,b.2.2.1,b.2.2.2)])).2.2.1),J ((Ae true 0 0 0 (BF [(a.1,a.2.1,a.2.2.1,a.2.2.2),(b.1,b.2.1,b.2.2.1,b.2.2.2)])).2.2.2.1)]from(List.cons.inj x8).1];rw[show vals 9=J ((Ae true 0 0 0 (BF [(a.1,a.2.1,a.2.2.1,a.2.2.2),(b.1,b.2.1,b.2.2.1,b.2.2.2)])).2.2.2.2)from(List.cons.inj x9).1];refine Dy (i:=10) v8 (Mi.getD 10 default) (2,0) (undef) λw106 u8=>?_;refine Dy (i:=11) u8 (Mi.getD 11 default) (0,0) (J ((Ae true 0 0 0 (BF [(a.1,a.2.1,a.2.2.1,a.2.2.2),(b.1,b.2.1,b.2.2.1,b.2.2.2)])).2.2.2.2)) λw107 q8=>?_;refine Dm ⟨rfl,At.mid ?_⟩;refine AC AAN q8 [] λw108 e3=>?_;exact AN e3 (2,0) (CJ (Ae true 0 0 0 (BF [(a.1,a.2.1,a.2.2.1,a.2.2.2),(b.1,b.2.1,b.2.2.1,b.2.2.2)]))) (o _ _ ⟨by unfold DN;rw[y,c5,c8,d,g,j,l,m,n,q,p,s,r,b0,e0,d0,v]<;>rfl,e3.B⟩)
 refine AC WA f3 [] λw109 c3=>?_;refine AH (x.op==17) (λc0=>?_) (λc0=>?_)
 ·refine Al 43 V9 c3 [] λm0 a2=>?_;refine DK Pj 10 ?_;refine Cm (md:=.any) (fuel:=2) (L:=[Av 0 [] (D [I true,J 0,J 0,J 0]),Av 1 [] (Z z),Av 2 [1] (D [I (a.1),J a.2.1,J a.2.2.1,J a.2.2.2]),⟨3,[2],[3],Kw 1 4 [[I (a.1),J a.2.1,J a.2.2.1,J a.2.2.2]]⟩,Av 4 [3] (J (BF [(a.1,a.2.1,a.2.2.1,a.2.2.2)])),Av 5 [0,4] (CJ (Ae true 0 0 0 (BF [(a.1,a.2.1,a.2.2.1,a.2.2.2)]))),Av 6 [5] (D [I ((Ae true 0 0 0 (BF [(a.1,a.2.1,a.2.2.1,a.2.2.2)])).1),J ((Ae true 0 0 0 (BF [(a.1,a.2.1,a.2.2.1,a.2.2.2)])).2.1),J ((Ae true 0 0 0 (BF [(a.1,a.2.1,a.2.2.1,a.2.2.2)])).2.2.1),J ((Ae true 0 0 0 (BF [(a.1,a.2.1,a.2.2.1,a.2.2.2)])).2.2.2.1)]),Av 7 [5] (J ((Ae true 0 0 0 (BF [(a.1,a.2.1,a.2.2.1,a.2.2.2)])).2.2.2.2))]) (W:=xF) (C:=λu=>Below (U m0) m0 u) (Ext:=Cy) (Below.refl _ _).drew Cy.refl (λ_ _ _=>Cy.trans) ⟨?_,?_,?_,?_,?_,?_,?_,?_,trivial⟩ rfl ?_
  ·refine⟨λ_ _ _ _ _ h=>h,λvals u hu hb=>?_⟩;exact AL.knownE [] trivial (AL.reads ⟨0,_,(4,0),[]⟩ (BG a2.G hu) (D [I true,J 0,J 0,J 0]) ⟨hu,.refl _,rfl⟩)
  ·refine⟨λ_ _ _ _ _ h=>h,λvals u hu hb=>?_⟩;exact AL.knownE [] trivial (AL.reads ⟨0,[],(0,0),[]⟩ (λe he=>by cases he) (Z z) ⟨hu,.refl _,rfl⟩)
  ·refine⟨λ_ _ _ _ _ h=>h,λvals u hu hb=>?_⟩;obtain⟨h1,_⟩:=hb;exact AL.knownE [(154,1,Z z)] ⟨(List.cons.inj h1).1,trivial⟩ (AL.reads ⟨0,_,(3,0),[]⟩ (BG a2.G hu) (D [I (a.1),J a.2.1,J a.2.2.1,J a.2.2.2]) ⟨hu,.refl _,rfl⟩)
  ·refine⟨λ_ _ _ _ he h=>h.keep he,λvals u hu hb=>?_⟩;obtain⟨h2,_⟩:=hb;refine AL.knownE [(155,2,D [I (a.1),J a.2.1,J a.2.2.1,J a.2.2.2])] ⟨(List.cons.inj h2).1,trivial⟩ (AL.runsK ⟨U u,[],(0,0),[]⟩ ⟨U u+1,[N (U u) [I (a.1),J a.2.1,J a.2.2.1,J a.2.2.2] 65],(0,0),[]⟩ (.value (V (some ⟨U u,0,none⟩) 1 1)) (V (some ⟨U u,0,none⟩) 1 1) (.inl rfl) (CQ u) rfl λu2 hL hK=>?_);have Bq:Below (U u) u u2:=hK.below (Nat.le_refl _) (λk o=>by cases o);exact⟨hu.trans (Bq.mono hu.size),Bq,⟨_,rfl,Db (rs:=[[I (a.1),J a.2.1,J a.2.2.1,J a.2.2.2]]) (by simp) (hL.sat.good _ (mem_singleton.2 rfl))⟩⟩
  ·refine⟨λ_ _ _ _ _ h=>h,λvals u hu hb=>?_⟩;obtain⟨h3,_⟩:=hb;obtain⟨t2,p2,k7⟩:=h3;refine AL.knownE [(156,3,φ t2 1 1)] ⟨(List.cons.inj p2).1,trivial⟩ (AL.call (f:=141) [.tmp 156] (ats:=#[75]) rfl (Cf _ _) ((Lo (θ t2) [(a.1,a.2.1,a.2.2.1,a.2.2.2)] 1 u k7 (by first | assumption | omega | (simp<;>omega))).mono λen u2 hh=>?_));obtain⟨rfl,bb⟩:=hh;exact⟨_,rfl,hu.trans (bb.mono hu.size),bb,rfl⟩
  ·refine⟨λ_ _ _ _ _ h=>h,λvals u hu hb=>?_⟩;obtain⟨h0,h4,_⟩:=hb;refine AL.knownE [(153,0,D [I true,J 0,J 0,J 0]),(157,4,J (BF [(a.1,a.2.1,a.2.2.1,a.2.2.2)]))] ⟨(List.cons.inj h0).1,(List.cons.inj h4).1,trivial⟩ (AL.call (f:=137) [.tmp 153,.tmp 157] (ats:=#[65,34]) rfl (Cf _ _) ((Dd true 0 0 0 (BF [(a.1,a.2.1,a.2.2.1,a.2.2.2)]) u).mono λen u2 hh=>?_));obtain⟨rfl,bb⟩:=hh;exact⟨_,rfl,hu.trans (bb.mono hu.size),bb,rfl⟩
  ·refine⟨λ_ _ _ _ _ h=>h,λvals u hu hb=>?_⟩;obtain⟨h5,_⟩:=hb;exact AL.knownE [(158,5,CJ (Ae true 0 0 0 (BF [(a.1,a.2.1,a.2.2.1,a.2.2.2)])))] ⟨(List.cons.inj h5).1,trivial⟩ (AL.reads ⟨0,[],(0,0),[]⟩ (λe he=>by cases he) (D [I ((Ae true 0 0 0 (BF [(a.1,a.2.1,a.2.2.1,a.2.2.2)])).1),J ((Ae true 0 0 0 (BF [(a.1,a.2.1,a.2.2.1,a.2.2.2)])).2.1),J ((Ae true 0 0 0 (BF [(a.1,a.2.1,a.2.2.1,a.2.2.2)])).2.2.1),J ((Ae true 0 0 0 (BF [(a.1,a.2.1,a.2.2.1,a.2.2.2)])).2.2.2.1)]) ⟨hu,.refl _,rfl⟩)
  ·refine⟨λ_ _ _ _ _ h=>h,λvals u hu hb=>?_⟩;obtain⟨h5,_⟩:=hb;exact AL.knownE [(158,5,CJ (Ae true 0 0 0 (BF [(a.1,a.2.1,a.2.2.1,a.2.2.2)])))] ⟨(List.cons.inj h5).1,trivial⟩ (AL.reads ⟨0,[],(0,0),[]⟩ (λe he=>by cases he) (J ((Ae true 0 0 0 (BF [(a.1,a.2.1,a.2.2.1,a.2.2.2)])).2.2.2.2)) ⟨hu,.refl _,rfl⟩)
  intro vals m2 e1 _ a0;replace e1:Below (U m0) m0 m2:=e1;obtain⟨x0,x1,x2,x3,x4,x5,x6,x7,_⟩:=a0;have k8:=a2.below e1;refine Bk [(4,Z g4),(159,vals 6),(160,vals 7)] λE112=>?_;rw[show vals 6=D [I ((Ae true 0 0 0 (BF [(a.1,a.2.1,a.2.2.1,a.2.2.2)])).1),J ((Ae true 0 0 0 (BF [(a.1,a.2.1,a.2.2.1,a.2.2.2)])).2.1),J ((Ae true 0 0 0 (BF [(a.1,a.2.1,a.2.2.1,a.2.2.2)])).2.2.1),J ((Ae true 0 0 0 (BF [(a.1,a.2.1,a.2.2.1,a.2.2.2)])).2.2.2.1)]from(List.cons.inj x6).1];rw[show vals 7=J ((Ae true 0 0 0 (BF [(a.1,a.2.1,a.2.2.1,a.2.2.2)])).2.2.2.2)from(List.cons.inj x7).1];refine Dy (i:=8) k8 (Pj.getD 8 default) (2,0) (undef) λw113 h8=>?_;refine Dy (i:=9) h8 (Pj.getD 9 default) (0,0) (J ((Ae true 0 0 0 (BF [(a.1,a.2.1,a.2.2.1,a.2.2.2)])).2.2.2.2)) λw114 g8=>?_;refine Dm ⟨rfl,At.mid ?_⟩;refine AC AAM g8 [] λw115 b3=>?_;exact AN b3 (2,0) (CJ (Ae true 0 0 0 (BF [(a.1,a.2.1,a.2.2.1,a.2.2.2)]))) (o _ _ ⟨by unfold DN;rw[y,c5,c8,d,g,j,l,m,n,q,p,s,r,b0,e0,d0,v,c0]<;>rfl,b3.B⟩)
 refine AC V8 c3 [] λwz a3=>?_;refine AH (x.op==16) (λg0=>?_) (λg0=>?_)
 ·refine Al 45 V7 a3 [] λl0 z1=>?_;refine DK Pi 11 ?_;refine Cm (md:=.any) (fuel:=2) (L:=[Av 0 [] (Z z),Av 1 [0] (D [I (a.1),J a.2.1,J a.2.2.1,J a.2.2.2]),Av 2 [] (Z z),Av 3 [2] (D [I (a.1),J a.2.1,J a.2.2.1,J a.2.2.2]),⟨4,[3],[4],Kw 1 4 [[I (a.1),J a.2.1,J a.2.2.1,J a.2.2.2]]⟩,Av 5 [4] (J (CV [(a.1,a.2.1,a.2.2.1,a.2.2.2)])),Av 6 [1,5] (CJ (Ae a.1 a.2.1 a.2.2.1 a.2.2.2 (CV [(a.1,a.2.1,a.2.2.1,a.2.2.2)]))),Av 7 [6] (D [I ((Ae a.1 a.2.1 a.2.2.1 a.2.2.2 (CV [(a.1,a.2.1,a.2.2.1,a.2.2.2)])).1),J ((Ae a.1 a.2.1 a.2.2.1 a.2.2.2 (CV [(a.1,a.2.1,a.2.2.1,a.2.2.2)])).2.1),J ((Ae a.1 a.2.1 a.2.2.1 a.2.2.2 (CV [(a.1,a.2.1,a.2.2.1,a.2.2.2)])).2.2.1),J ((Ae a.1 a.2.1 a.2.2.1 a.2.2.2 (CV [(a.1,a.2.1,a.2.2.1,a.2.2.2)])).2.2.2.1)]),Av 8 [6] (J ((Ae a.1 a.2.1 a.2.2.1 a.2.2.2 (CV [(a.1,a.2.1,a.2.2.1,a.2.2.2)])).2.2.2.2))]) (W:=xE) (C:=λu=>Below (U l0) l0 u) (Ext:=Cy) (Below.refl _ _).drew Cy.refl (λ_ _ _=>Cy.trans) ⟨?_,?_,?_,?_,?_,?_,?_,?_,?_,trivial⟩ rfl ?_
  ·refine⟨λ_ _ _ _ _ h=>h,λvals u hu hb=>?_⟩;exact AL.knownE [] trivial (AL.reads ⟨0,[],(0,0),[]⟩ (λe he=>by cases he) (Z z) ⟨hu,.refl _,rfl⟩)
  ·refine⟨λ_ _ _ _ _ h=>h,λvals u hu hb=>?_⟩;obtain⟨h0,_⟩:=hb;exact AL.knownE [(163,0,Z z)] ⟨(List.cons.inj h0).1,trivial⟩ (AL.reads ⟨0,_,(3,0),[]⟩ (BG z1.G hu) (D [I (a.1),J a.2.1,J a.2.2.1,J a.2.2.2]) ⟨hu,.refl _,rfl⟩)
  ·refine⟨λ_ _ _ _ _ h=>h,λvals u hu hb=>?_⟩;exact AL.knownE [] trivial (AL.reads ⟨0,[],(0,0),[]⟩ (λe he=>by cases he) (Z z) ⟨hu,.refl _,rfl⟩)
  ·refine⟨λ_ _ _ _ _ h=>h,λvals u hu hb=>?_⟩;obtain⟨h2,_⟩:=hb;exact AL.knownE [(165,2,Z z)] ⟨(List.cons.inj h2).1,trivial⟩ (AL.reads ⟨0,_,(3,0),[]⟩ (BG z1.G hu) (D [I (a.1),J a.2.1,J a.2.2.1,J a.2.2.2]) ⟨hu,.refl _,rfl⟩)
  ·refine⟨λ_ _ _ _ he h=>h.keep he,λvals u hu hb=>?_⟩;obtain⟨h3,_⟩:=hb;refine AL.knownE [(166,3,D [I (a.1),J a.2.1,J a.2.2.1,J a.2.2.2])] ⟨(List.cons.inj h3).1,trivial⟩ (AL.runsK ⟨U u,[],(0,0),[]⟩ ⟨U u+1,[N (U u) [I (a.1),J a.2.1,J a.2.2.1,J a.2.2.2] 65],(0,0),[]⟩ (.value (V (some ⟨U u,0,none⟩) 1 1)) (V (some ⟨U u,0,none⟩) 1 1) (.inl rfl) (CQ u) rfl λu2 hL hK=>?_);have Bq:Below (U u) u u2:=hK.below (Nat.le_refl _) (λk o=>by cases o);exact⟨hu.trans (Bq.mono hu.size),Bq,⟨_,rfl,Db (rs:=[[I (a.1),J a.2.1,J a.2.2.1,J a.2.2.2]]) (by simp) (hL.sat.good _ (mem_singleton.2 rfl))⟩⟩
  ·refine⟨λ_ _ _ _ _ h=>h,λvals u hu hb=>?_⟩;obtain⟨h4,_⟩:=hb;obtain⟨s2,o2,g7⟩:=h4;refine AL.knownE [(167,4,φ s2 1 1)] ⟨(List.cons.inj o2).1,trivial⟩ (AL.call (f:=142) [.tmp 167] (ats:=#[75]) rfl (Cf _ _) ((PD (θ s2) [(a.1,a.2.1,a.2.2.1,a.2.2.2)] 1 u g7 (by first | assumption | omega | (simp<;>omega))).mono λen u2 hh=>?_));obtain⟨rfl,bb⟩:=hh;exact⟨_,rfl,hu.trans (bb.mono hu.size),bb,rfl⟩
  ·refine⟨λ_ _ _ _ _ h=>h,λvals u hu hb=>?_⟩;obtain⟨h1,h5,_⟩:=hb;refine AL.knownE [(164,1,D [I (a.1),J a.2.1,J a.2.2.1,J a.2.2.2]),(168,5,J (CV [(a.1,a.2.1,a.2.2.1,a.2.2.2)]))] ⟨(List.cons.inj h1).1,(List.cons.inj h5).1,trivial⟩ (AL.call (f:=137) [.tmp 164,.tmp 168] (ats:=#[65,34]) rfl (Cf _ _) ((Dd a.1 a.2.1 a.2.2.1 a.2.2.2 (CV [(a.1,a.2.1,a.2.2.1,a.2.2.2)]) u).mono λen u2 hh=>?_));obtain⟨rfl,bb⟩:=hh;exact⟨_,rfl,hu.trans (bb.mono hu.size),bb,rfl⟩
  ·refine⟨λ_ _ _ _ _ h=>h,λvals u hu hb=>?_⟩;obtain⟨h6,_⟩:=hb;exact AL.knownE [(169,6,CJ (Ae a.1 a.2.1 a.2.2.1 a.2.2.2 (CV [(a.1,a.2.1,a.2.2.1,a.2.2.2)])))] ⟨(List.cons.inj h6).1,trivial⟩ (AL.reads ⟨0,[],(0,0),[]⟩ (λe he=>by cases he) (D [I ((Ae a.1 a.2.1 a.2.2.1 a.2.2.2 (CV [(a.1,a.2.1,a.2.2.1,a.2.2.2)])).1),J ((Ae a.1 a.2.1 a.2.2.1 a.2.2.2 (CV [(a.1,a.2.1,a.2.2.1,a.2.2.2)])).2.1),J ((Ae a.1 a.2.1 a.2.2.1 a.2.2.2 (CV [(a.1,a.2.1,a.2.2.1,a.2.2.2)])).2.2.1),J ((Ae a.1 a.2.1 a.2.2.1 a.2.2.2 (CV [(a.1,a.2.1,a.2.2.1,a.2.2.2)])).2.2.2.1)]) ⟨hu,.refl _,rfl⟩)
  ·refine⟨λ_ _ _ _ _ h=>h,λvals u hu hb=>?_⟩;obtain⟨h6,_⟩:=hb;exact AL.knownE [(169,6,CJ (Ae a.1 a.2.1 a.2.2.1 a.2.2.2 (CV [(a.1,a.2.1,a.2.2.1,a.2.2.2)])))] ⟨(List.cons.inj h6).1,trivial⟩ (AL.reads ⟨0,[],(0,0),[]⟩ (λe he=>by cases he) (J ((Ae a.1 a.2.1 a.2.2.1 a.2.2.2 (CV [(a.1,a.2.1,a.2.2.1,a.2.2.2)])).2.2.2.2)) ⟨hu,.refl _,rfl⟩)
  intro vals l2 d1 _ a0;replace d1:Below (U l0) l0 l2:=d1;obtain⟨x0,x1,x2,x3,x4,x5,x6,x7,x8,_⟩:=a0;have f8:=z1.below d1;refine Bk [(4,Z g4),(170,vals 7),(171,vals 8)] λE119=>?_;rw[show vals 7=D [I ((Ae a.1 a.2.1 a.2.2.1 a.2.2.2 (CV [(a.1,a.2.1,a.2.2.1,a.2.2.2)])).1),J ((Ae a.1 a.2.1 a.2.2.1 a.2.2.2 (CV [(a.1,a.2.1,a.2.2.1,a.2.2.2)])).2.1),J ((Ae a.1 a.2.1 a.2.2.1 a.2.2.2 (CV [(a.1,a.2.1,a.2.2.1,a.2.2.2)])).2.2.1),J ((Ae a.1 a.2.1 a.2.2.1 a.2.2.2 (CV [(a.1,a.2.1,a.2.2.1,a.2.2.2)])).2.2.2.1)]from(List.cons.inj x7).1];rw[show vals 8=J ((Ae a.1 a.2.1 a.2.2.1 a.2.2.2 (CV [(a.1,a.2.1,a.2.2.1,a.2.2.2)])).2.2.2.2)from(List.cons.inj x8).1];refine Dy (i:=9) f8 (Pi.getD 9 default) (2,0) (undef) λwy b8=>?_;refine Dy (i:=10) b8 (Pi.getD 10 default) (0,0) (J ((Ae a.1 a.2.1 a.2.2.1 a.2.2.2 (CV [(a.1,a.2.1,a.2.2.1,a.2.2.2)])).2.2.2.2)) λwx a8=>?_;refine Dm ⟨rfl,At.mid ?_⟩;refine AC AAL a8 [] λwr z2=>?_;exact AN z2 (2,0) (CJ (Ae a.1 a.2.1 a.2.2.1 a.2.2.2 (CV [(a.1,a.2.1,a.2.2.1,a.2.2.2)]))) (o _ _ ⟨by unfold DN;rw[y,c5,c8,d,g,j,l,m,n,q,p,s,r,b0,e0,d0,v,c0,g0]<;>rfl,z2.B⟩)
 refine AC V6 a3 [] λi2 y2=>?_;refine AH (x.op==18) (λj0=>?_) (λj0=>?_)
 ·refine Ar j8 y2 [(3,0)] λf2 w2=>?_;refine AW w2 (Lo (some ⟨U i2,0,none⟩) [(a.1,a.2.1,a.2.2.1,a.2.2.2)] 1 f2 (Db (t:=65) (rs:=[[I (a.1),J a.2.1,J a.2.2.1,J a.2.2.2]]) (by simp) (w2.ent 5 (by kernel_rfl))) (by first | assumption | omega | (simp<;>omega))) λwp z7=>?_;refine AC V5 z7 [] λwl v2=>?_;refine AH (BF [(a.1,a.2.1,a.2.2.1,a.2.2.2)]==0) (λc1=>?_) (λc1=>?_)
  ·refine AC j7 v2 [(3,4),(3,8)] λe2 m6=>?_;refine AW m6 (TY b.1 b.2.1 b.2.2.1 b.2.2.2 k2.1 k2.2.1 k2.2.2.1 k2.2.2.2 e2) λwf k6=>?_;refine AC j6 k6 [(3,4)] λd2 f6=>?_;refine AW f6 (Dd b.1 b.2.1 b.2.2.1 b.2.2.2 (Gt b.1 b.2.1 b.2.2.1 b.2.2.2 k2.1 k2.2.1 k2.2.2.1 k2.2.2.2) d2) λwa e6=>?_;refine Ar AAK e6 [(2,0)] λvx s1=>?_;exact AN s1 (2,0) (CJ (Ae b.1 b.2.1 b.2.2.1 b.2.2.2 (Gt b.1 b.2.1 b.2.2.1 b.2.2.2 k2.1 k2.2.1 k2.2.2.1 k2.2.2.2))) (o _ _ ⟨by unfold DN;rw[y,c5,c8,d,g,j,l,m,n,q,p,s,r,b0,e0,d0,v,c0,g0,j0,c1]<;>rfl,s1.B⟩)
  refine AC j5 v2 [(3,4)] λb2 c6=>?_;refine AW c6 (Dd b.1 b.2.1 b.2.2.1 b.2.2.2 (BF [(a.1,a.2.1,a.2.2.1,a.2.2.2)]) b2) λvv b6=>?_;refine Ar AAJ b6 [(2,0)] λvs r1=>?_;exact AN r1 (2,0) (CJ (Ae b.1 b.2.1 b.2.2.1 b.2.2.2 (BF [(a.1,a.2.1,a.2.2.1,a.2.2.2)]))) (o _ _ ⟨by unfold DN;rw[y,c5,c8,d,g,j,l,m,n,q,p,s,r,b0,e0,d0,v,c0,g0,j0,c1]<;>rfl,r1.B⟩)
 refine AC V4 y2 [] λvn q1=>?_;refine AH (x.op==19) (λb1=>?_) (λb1=>?_)
 ·refine Al 52 j4 q1 [] λvi p1=>?_;refine Fh p1 [0,1,2,3,4,5,6,7,8,9] [(1,3,0),(3,3,0),(5,1,3)] [⟨6,[(196,D [I (a.1),J a.2.1,J a.2.2.1,J a.2.2.2]),(198,D [J x.mu,J x.hu,J x.du])],J (Dj a.1 a.2.1 a.2.2.1 a.2.2.2 x.mu x.hu x.du),true⟩,⟨7,[(194,D [I (a.1),J a.2.1,J a.2.2.1,J a.2.2.2]),(199,J (Dj a.1 a.2.1 a.2.2.1 a.2.2.2 x.mu x.hu x.du))],CJ (Ae a.1 a.2.1 a.2.2.1 a.2.2.2 (Dj a.1 a.2.1 a.2.2.1 a.2.2.2 x.mu x.hu x.du)),true⟩] [(10,2,0),(11,0,0)] p1.G (λsp c=>?_) λzs vf z5=>?_
  ·simp only[mem_cons,not_mem_nil,or_false]at c;rcases c with rfl | rfl
   ·exact AU 136 [.tmp 196,.tmp 198] _ (λ_=>by kernel_rfl) λhc u hu=>AR hu (LH a.1 a.2.1 a.2.2.1 a.2.2.2 x.mu x.hu x.du u)
   exact AU 137 [.tmp 194,.tmp 199] _ (λ_=>by kernel_rfl) λhc u hu=>AR hu (Dd a.1 a.2.1 a.2.2.1 a.2.2.2 (Dj a.1 a.2.1 a.2.2.1 a.2.2.2 x.mu x.hu x.du) u)
  refine AC AAI z5 [] λvd o1=>?_;exact AN o1 (2,0) (CJ (Ae a.1 a.2.1 a.2.2.1 a.2.2.2 (Dj a.1 a.2.1 a.2.2.1 a.2.2.2 x.mu x.hu x.du))) (o _ _ ⟨by unfold DN;rw[y,c5,c8,d,g,j,l,m,n,q,p,s,r,b0,e0,d0,v,c0,g0,j0,b1]<;>rfl,o1.B⟩)
 refine AC AAH q1 [(2,0)] λvc n1=>?_;exact AN n1 (2,0) (.tuple #[D [I false,J 0,J 0,J 0],J 1]) (o _ _ ⟨by unfold DN;rw[y,c5,c8,d,g,j,l,m,n,q,p,s,r,b0,e0,d0,v,c0,g0,j0,b1]<;>rfl,n1.B⟩)
def Ut (ns:List (Df)) (ss:List (Df)) (ps:List (Df)) (x:Ex):Bool×Int×Int×Int×Int:=DN ns ss ps x (false,0,0,0) (false,0,0,0) (false,0,0,0)
def xS (r:Bool×Int×Int×Int×Int):Value:=.tuple #[D [I (r.1),J (r.2.1),J (r.2.2.1),J (r.2.2.2.1)],J (r.2.2.2.2)]
noncomputable def Sc:Code:=Tryz.f117.body.getD .skip
def AEo:List Item:=(CK (Gs 10) 400 [false] ([.code Sc])).2
theorem Us (f:Option Addr) (ns:List (Df)) (k:Nat) (d:Option Addr) (ss:List (Df)) (j:Nat) (b:Option Addr) (p:List (Df)) (i:Nat) (x:Ex) (a:Option Addr) (g:Nat) (w:World) (s:rowsDf w f ns) (o:ns.length<=4294967296) (q:rowsDf w d ss) (l:ss.length<=4294967296) (r:rowsDf w b p) (m:p.length<=4294967296) (u:rowsEx w a []) (v:x.ks.length=0):Calls Tryz.prog 117 ([D [V f ns.length k,V d ss.length j,V b p.length i],D [J x.op,J x.num,J x.den,J x.mu,J x.hu,J x.du,Y (x.nm),J x.cnt,J x.md,V a 0 g]]:List Value).toArray w λe w'=>e=.returned (xS (Ut ns ss p x))/\Below (U w) w w':=by refine AS (fn:=Tryz.f117) (c:=Sc) (n:=204) ?_;have K1:=Wk.start w;refine CZ (CK (Gs 10) 400 [false] ([.code Sc])).1 [(4,2),(15,1)] AEo K1 λt z=>?_;have y:Wk w t [N (U w) [V f ns.length k,V d ss.length j,V b p.length i] 174,N (U w+1) [J x.op,J x.num,J x.den,J x.mu,J x.hu,J x.du,Y (x.nm),J x.cnt,J x.md,V a 0 g] 70,N (U w+2) [I false,J 0,J 0,J 0] 65,N (U w+3) [I false,J 0,J 0,J 0,I false,J 0,J 0,J 0,I false,J 0,J 0,J 0] 185] [] []:=z.pk [0,1,2,3] [];refine AX [(2,Z (U w)),(3,Z (U w+1)),(4,Z (U w+2)),(6,Z (U w+3))] λE2=>?_;refine Ol (todo':=SD) (by kernel_rfl) ?_;exact KN ns ss p x (false,0,0,0) (false,0,0,0) (false,0,0,0) f d b a k j i 0 g (U w) (U w+1) (U w+2) (U w+3) E2 w t s o q l r m y (λ_ _ h=>⟨h.1.trans (by unfold Ut;rfl),h.2⟩)
def Jn (r0:JQ) (ns:List (Df)) (ss:List (Df)) (ps:List (Df)) (x:Ex):Bool×Int×Int×Int×Int:=cond (!((r0).2.2.2.2==0)) ((false,0,0,0,(r0).2.2.2.2)) (DN ns ss ps x (r0.1,r0.2.1,r0.2.2.1,r0.2.2.2.1) (false,0,0,0) (false,0,0,0))
def xR (r:Bool×Int×Int×Int×Int):Value:=.tuple #[D [I (r.1),J (r.2.1),J (r.2.2.1),J (r.2.2.2.1)],J (r.2.2.2.2)]
noncomputable def Sb:Code:=Tryz.f117.body.getD .skip
def dh:List Item:=(CK (Hd (HM 68)) 400 [true] ([.code Sb])).2
def dg:List Item:=(CK (λ_=>false) 400 [] (AD (AD dh))).2
def Qi:List Item:=(CK (λ_=>false) 400 [] (AD dg)).2
def AEn:List Item:=(CK (λ_=>false) 400 [] (AE Qi)).2
def AEm:List Item:=(CK (Gs 10) 400 [false] (AG Qi)).2
theorem Ur (o:JQ) (d:Option Addr) (ns:List (Df)) (j:Nat) (b:Option Addr) (ss:List (Df)) (i:Nat) (a:Option Addr) (q:List (Df)) (f:Nat) (x:Ex) (r:Option Addr) (z:Ex) (l:Nat) (w:World) (d0:rowsDf w d ns) (v:ns.length<=4294967296) (b0:rowsDf w b ss) (s:ss.length<=4294967296) (c0:rowsDf w a q) (t:q.length<=4294967296) (a0:rowsEx w r [z]) (l0:x.ks.length=1) (j0:∀u,Below (U w) w u->∀(A:Option Addr) (c:Nat),rowsEx u A z.ks->Calls Tryz.prog 117 ([D [V d ns.length j,V b ss.length i,V a q.length f],D (Ad z A c)]:List Value).toArray u λe w'=>e=.returned (KM o)/\Below (U u) u w'):Calls Tryz.prog 117 ([D [V d ns.length j,V b ss.length i,V a q.length f],D [J x.op,J x.num,J x.den,J x.mu,J x.hu,J x.du,Y (x.nm),J x.cnt,J x.md,V r 1 l]]:List Value).toArray w λe w'=>e=.returned (xR (Jn o ns ss q x))/\Below (U w) w w':=by
 refine AS (fn:=Tryz.f117) (c:=Sb) (n:=204) ?_;have K1:=Wk.start w;obtain⟨gk,m,rfl,i0,y⟩:=a0.all (by simp);obtain⟨h0,g0,p,e0⟩:=y 0 z rfl;refine CZ (CK (Hd (HM 68)) 400 [true] ([.code Sb])).1 [(15,1)] dh K1 λw1 K2=>?_;refine Aw (g:=gk) (off:=m) (cap:=l) (sz:=10) (k:=0) (len:=1) (some 21) (by decide) Tryz.underlying68 ?_;refine Bd 70 gk (m+0*10) _ (some 22) (Aj p i0 K2.B) ?_;refine CZ (CK (λ_=>false) 400 [] (AD (AD dh))).1 [(2,0),(8,4)] dg K2 λw2 K3=>?_;refine AW K3 (args:=[D [V d ns.length j,V b ss.length i,V a q.length f],D ((ω z h0 g0))]) (j0 w2 K3.B _ _ (e0.below K3.B)) λw3 K4=>?_;refine CZ (CK (λ_=>false) 400 [] (AD dg)).1 [(9,5)] Qi K4 λw4 K5=>?_;refine AH (!((o).2.2.2.2==0)) (λc5=>?_) (λc5=>?_)
 ·refine CZ (CK (λ_=>false) 400 [] (AE Qi)).1 [(4,2)] AEn K5 λw6 K6=>?_;exact AQ K6 (2,0) _ (by unfold Jn;rw[c5]<;>rfl)
 refine CZ (CK (Gs 10) 400 [false] (AG Qi)).1 [(9,5),(35,3)] AEm K5 λw7 K7=>?_;have K8:Wk w w7 [N (U w) [V d ns.length j,V b ss.length i,V a q.length f] 174,N (U w+1) [J x.op,J x.num,J x.den,J x.mu,J x.hu,J x.du,Y (x.nm),J x.cnt,J x.md,V (some ⟨gk,m,none⟩) 1 l] 70,N (U w+2) [I false,J 0,J 0,J 0] 65,N (U w+3) [I ((o).1),J ((o).2.1),J ((o).2.2.1),J ((o).2.2.2.1),I false,J 0,J 0,J 0,I false,J 0,J 0,J 0] 185] [] []:=K7.pk [0,1,2,3] [];refine AX [(2,Z (U w)),(3,Z (U w+1)),(4,Z (U w+2)),(6,Z (U w+3))] λE8=>?_;refine Ol (todo':=SD) (by kernel_rfl) ?_;exact KN ns ss q x (o.1,o.2.1,o.2.2.1,o.2.2.2.1) (false,0,0,0) (false,0,0,0) d b a (some ⟨gk,m,none⟩) j i f 1 l (U w) (U w+1) (U w+2) (U w+3) E8 w w7 d0 v b0 s c0 t K8 (λ_ _ h=>⟨h.1.trans (by unfold Jn;rw[c5]<;>rfl),h.2⟩)
def L6 (r0:JQ) (r1:JQ) (ns:List (Df)) (ss:List (Df)) (ps:List (Df)) (x:Ex):Bool×Int×Int×Int×Int:=cond (!((r0).2.2.2.2==0)) ((false,0,0,0,(r0).2.2.2.2)) (cond (!((r1).2.2.2.2==0)) ((false,0,0,0,(r1).2.2.2.2)) (DN ns ss ps x (r0.1,r0.2.1,r0.2.2.1,r0.2.2.2.1) (r1.1,r1.2.1,r1.2.2.1,r1.2.2.2.1) (false,0,0,0)))
def xQ (r:Bool×Int×Int×Int×Int):Value:=.tuple #[D [I (r.1),J (r.2.1),J (r.2.2.1),J (r.2.2.2.1)],J (r.2.2.2.2)]
noncomputable def Sa:Code:=Tryz.f117.body.getD .skip
def de:List Item:=(CK (Hd (HM 68)) 400 [true] ([.code Sa])).2
def dc:List Item:=(CK (λ_=>false) 400 [] (AD (AD de))).2
def Qh:List Item:=(CK (λ_=>false) 400 [] (AD dc)).2
def AEl:List Item:=(CK (λ_=>false) 400 [] (AE Qh)).2
def db:List Item:=(CK (Hd (HM 68)) 400 [true] (AG Qh)).2
def da:List Item:=(CK (λ_=>false) 400 [] (AD (AD db))).2
def Qg:List Item:=(CK (λ_=>false) 400 [] (AD da)).2
def AEk:List Item:=(CK (λ_=>false) 400 [] (AE Qg)).2
def AEj:List Item:=(CK (Gs 10) 400 [false] (AG Qg)).2
theorem Uq (p o:JQ) (d:Option Addr) (ns:List (Df)) (j:Nat) (b:Option Addr) (ss:List (Df)) (i:Nat) (a:Option Addr) (r:List (Df)) (f:Nat) (x:Ex) (v:Option Addr) (k0 k1:Ex) (m:Nat) (w:World) (i0:rowsDf w d ns) (a0:ns.length<=4294967296) (g0:rowsDf w b ss) (y:ss.length<=4294967296) (h0:rowsDf w a r) (z:r.length<=4294967296) (e0:rowsEx w v [k0,k1]) (f1:x.ks.length=2) (b1:∀u,Below (U w) w u->∀(A:Option Addr) (c:Nat),rowsEx u A k0.ks->Calls Tryz.prog 117 ([D [V d ns.length j,V b ss.length i,V a r.length f],D (Ad k0 A c)]:List Value).toArray u λe w'=>e=.returned (KM p)/\Below (U u) u w') (a1:∀u,Below (U w) w u->∀(A:Option Addr) (c:Nat),rowsEx u A k1.ks->Calls Tryz.prog 117 ([D [V d ns.length j,V b ss.length i,V a r.length f],D (Ad k1 A c)]:List Value).toArray u λe w'=>e=.returned (KM o)/\Below (U u) u w'):Calls Tryz.prog 117 ([D [V d ns.length j,V b ss.length i,V a r.length f],D [J x.op,J x.num,J x.den,J x.mu,J x.hu,J x.du,Y (x.nm),J x.cnt,J x.md,V v 2 m]]:List Value).toArray w λe w'=>e=.returned (xQ (L6 p o ns ss r x))/\Below (U w) w w':=by
 refine AS (fn:=Tryz.f117) (c:=Sa) (n:=204) ?_;have K1:=Wk.start w;obtain⟨gk,l,rfl,d0,q⟩:=e0.all (by simp);obtain⟨v0,t0,t,l0⟩:=q 0 k0 rfl;refine CZ (CK (Hd (HM 68)) 400 [true] ([.code Sa])).1 [(15,1)] de K1 λw1 K2=>?_;refine Aw (g:=gk) (off:=l) (cap:=m) (sz:=10) (k:=0) (len:=2) (some 21) (by decide) Tryz.underlying68 ?_;refine Bd 70 gk (l+0*10) _ (some 22) (Aj t d0 K2.B) ?_;refine CZ (CK (λ_=>false) 400 [] (AD (AD de))).1 [(2,0),(8,4)] dc K2 λw2 K3=>?_;refine AW K3 (args:=[D [V d ns.length j,V b ss.length i,V a r.length f],D ((ω k0 v0 t0))]) (b1 w2 K3.B _ _ (l0.below K3.B)) λw3 K4=>?_;refine CZ (CK (λ_=>false) 400 [] (AD dc)).1 [(9,5)] Qh K4 λw4 K5=>?_;refine AH (!((p).2.2.2.2==0)) (λc5=>?_) (λc5=>?_)
 ·refine CZ (CK (λ_=>false) 400 [] (AE Qh)).1 [(4,2)] AEl K5 λw6 K6=>?_;exact AQ K6 (2,0) _ (by unfold L6;rw[c5]<;>rfl)
 obtain⟨q0,p0,s,j0⟩:=q 1 k1 rfl;refine CZ (CK (Hd (HM 68)) 400 [true] (AG Qh)).1 [(9,5),(35,3)] db K5 λw7 K7=>?_;refine Aw (g:=gk) (off:=l) (cap:=m) (sz:=10) (k:=1) (len:=2) (some 21) (by decide) Tryz.underlying68 ?_;refine Bd 70 gk (l+1*10) _ (some 22) (Aj s d0 K7.B) ?_;refine CZ (CK (λ_=>false) 400 [] (AD (AD db))).1 [(2,0),(8,6)] da K7 λw8 K8=>?_;refine AW K8 (args:=[D [V d ns.length j,V b ss.length i,V a r.length f],D ((ω k1 q0 p0))]) (a1 w8 K8.B _ _ (j0.below K8.B)) λw9 K9=>?_;refine CZ (CK (λ_=>false) 400 [] (AD da)).1 [(9,7)] Qg K9 λe1 m0=>?_;refine AH (!((o).2.2.2.2==0)) (λb0=>?_) (λb0=>?_)
 ·refine CZ (CK (λ_=>false) 400 [] (AE Qg)).1 [(4,2)] AEk m0 λd1 z0=>?_;exact AQ z0 (2,0) _ (by unfold L6;rw[c5,b0]<;>rfl)
 refine CZ (CK (Gs 10) 400 [false] (AG Qg)).1 [(9,7),(35,3)] AEj m0 λc0 x0=>?_;have w0:Wk w c0 [N (U w) [V d ns.length j,V b ss.length i,V a r.length f] 174,N (U w+1) [J x.op,J x.num,J x.den,J x.mu,J x.hu,J x.du,Y (x.nm),J x.cnt,J x.md,V (some ⟨gk,l,none⟩) 2 m] 70,N (U w+2) [I false,J 0,J 0,J 0] 65,N (U w+3) [I ((p).1),J ((p).2.1),J ((p).2.2.1),J ((p).2.2.2.1),I ((o).1),J ((o).2.1),J ((o).2.2.1),J ((o).2.2.2.1),I false,J 0,J 0,J 0] 185] [] []:=x0.pk [0,1,2,3] [];refine AX [(2,Z (U w)),(3,Z (U w+1)),(4,Z (U w+2)),(6,Z (U w+3))] λc1=>?_;refine Ol (todo':=SD) (by kernel_rfl) ?_;exact KN ns ss r x (p.1,p.2.1,p.2.2.1,p.2.2.2.1) (o.1,o.2.1,o.2.2.1,o.2.2.2.1) (false,0,0,0) d b a (some ⟨gk,l,none⟩) j i f 2 m (U w) (U w+1) (U w+2) (U w+3) c1 w c0 i0 a0 g0 y h0 z w0 (λ_ _ h=>⟨h.1.trans (by unfold L6;rw[c5,b0]<;>rfl),h.2⟩)
def Kq (r0:JQ) (r1:JQ) (r2:JQ) (ns:List (Df)) (ss:List (Df)) (ps:List (Df)) (x:Ex):Bool×Int×Int×Int×Int:=cond (!((r0).2.2.2.2==0)) ((false,0,0,0,(r0).2.2.2.2)) (cond (!((r1).2.2.2.2==0)) ((false,0,0,0,(r1).2.2.2.2)) (cond (!((r2).2.2.2.2==0)) ((false,0,0,0,(r2).2.2.2.2)) (DN ns ss ps x (r0.1,r0.2.1,r0.2.2.1,r0.2.2.2.1) (r1.1,r1.2.1,r1.2.2.1,r1.2.2.2.1) (r2.1,r2.2.1,r2.2.2.1,r2.2.2.2.1))))
def xP (r:Bool×Int×Int×Int×Int):Value:=.tuple #[D [I (r.1),J (r.2.1),J (r.2.2.1),J (r.2.2.2.1)],J (r.2.2.2.2)]
noncomputable def SZ:Code:=Tryz.f117.body.getD .skip
def dZ:List Item:=(CK (Hd (HM 68)) 400 [true] ([.code SZ])).2
def dY:List Item:=(CK (λ_=>false) 400 [] (AD (AD dZ))).2
def Qf:List Item:=(CK (λ_=>false) 400 [] (AD dY)).2
def AEi:List Item:=(CK (λ_=>false) 400 [] (AE Qf)).2
def dX:List Item:=(CK (Hd (HM 68)) 400 [true] (AG Qf)).2
def dW:List Item:=(CK (λ_=>false) 400 [] (AD (AD dX))).2
def Qe:List Item:=(CK (λ_=>false) 400 [] (AD dW)).2
def AEh:List Item:=(CK (λ_=>false) 400 [] (AE Qe)).2
def dV:List Item:=(CK (Hd (HM 68)) 400 [true] (AG Qe)).2
def dU:List Item:=(CK (λ_=>false) 400 [] (AD (AD dV))).2
def Ng:List Item:=(CK (λ_=>false) 400 [] (AD dU)).2
def AAd:List Item:=(CK (λ_=>false) 400 [] (AE Ng)).2
def AAc:List Item:=(CK (Gs 10) 400 [false] (AG Ng)).2
theorem Up (s r q:JQ) (d:Option Addr) (ns:List (Df)) (j:Nat) (b:Option Addr) (ss:List (Df)) (i:Nat) (a:Option Addr) (p:List (Df)) (f:Nat) (x:Ex) (a0:Option Addr) (k0 k1 k2:Ex) (m:Nat) (w:World) (p0:rowsDf w d ns) (d0:ns.length<=4294967296) (l0:rowsDf w b ss) (b0:ss.length<=4294967296) (m0:rowsDf w a p) (c0:p.length<=4294967296) (j0:rowsEx w a0 [k0,k1,k2]) (b2:x.ks.length=3) (q1:∀u,Below (U w) w u->∀(A:Option Addr) (c:Nat),rowsEx u A k0.ks->Calls Tryz.prog 117 ([D [V d ns.length j,V b ss.length i,V a p.length f],D (Ad k0 A c)]:List Value).toArray u λe w'=>e=.returned (KM s)/\Below (U u) u w') (p1:∀u,Below (U w) w u->∀(A:Option Addr) (c:Nat),rowsEx u A k1.ks->Calls Tryz.prog 117 ([D [V d ns.length j,V b ss.length i,V a p.length f],D (Ad k1 A c)]:List Value).toArray u λe w'=>e=.returned (KM r)/\Below (U u) u w') (o1:∀u,Below (U w) w u->∀(A:Option Addr) (c:Nat),rowsEx u A k2.ks->Calls Tryz.prog 117 ([D [V d ns.length j,V b ss.length i,V a p.length f],D (Ad k2 A c)]:List Value).toArray u λe w'=>e=.returned (KM q)/\Below (U u) u w'):Calls Tryz.prog 117 ([D [V d ns.length j,V b ss.length i,V a p.length f],D [J x.op,J x.num,J x.den,J x.mu,J x.hu,J x.du,Y (x.nm),J x.cnt,J x.md,V a0 3 m]]:List Value).toArray w λe w'=>e=.returned (xP (Kq s r q ns ss p x))/\Below (U w) w w':=by
 refine AS (fn:=Tryz.f117) (c:=SZ) (n:=204) ?_;have K1:=Wk.start w;obtain⟨gk,l,rfl,e0,o⟩:=j0.all (by simp);obtain⟨g1,f1,y,v0⟩:=o 0 k0 rfl;refine CZ (CK (Hd (HM 68)) 400 [true] ([.code SZ])).1 [(15,1)] dZ K1 λw1 K2=>?_;refine Aw (g:=gk) (off:=l) (cap:=m) (sz:=10) (k:=0) (len:=3) (some 21) (by decide) Tryz.underlying68 ?_;refine Bd 70 gk (l+0*10) _ (some 22) (Aj y e0 K2.B) ?_;refine CZ (CK (λ_=>false) 400 [] (AD (AD dZ))).1 [(2,0),(8,4)] dY K2 λw2 K3=>?_;refine AW K3 (args:=[D [V d ns.length j,V b ss.length i,V a p.length f],D ((ω k0 g1 f1))]) (q1 w2 K3.B _ _ (v0.below K3.B)) λw3 K4=>?_;refine CZ (CK (λ_=>false) 400 [] (AD dY)).1 [(9,5)] Qf K4 λw4 K5=>?_;refine AH (!((s).2.2.2.2==0)) (λc5=>?_) (λc5=>?_)
 ·refine CZ (CK (λ_=>false) 400 [] (AE Qf)).1 [(4,2)] AEi K5 λw6 K6=>?_;exact AQ K6 (2,0) _ (by unfold Kq;rw[c5]<;>rfl)
 obtain⟨e1,d1,v,t0⟩:=o 1 k1 rfl;refine CZ (CK (Hd (HM 68)) 400 [true] (AG Qf)).1 [(9,5),(35,3)] dX K5 λw7 K7=>?_;refine Aw (g:=gk) (off:=l) (cap:=m) (sz:=10) (k:=1) (len:=3) (some 21) (by decide) Tryz.underlying68 ?_;refine Bd 70 gk (l+1*10) _ (some 22) (Aj v e0 K7.B) ?_;refine CZ (CK (λ_=>false) 400 [] (AD (AD dX))).1 [(2,0),(8,6)] dW K7 λw8 K8=>?_;refine AW K8 (args:=[D [V d ns.length j,V b ss.length i,V a p.length f],D ((ω k1 e1 d1))]) (p1 w8 K8.B _ _ (t0.below K8.B)) λw9 K9=>?_;refine CZ (CK (λ_=>false) 400 [] (AD dW)).1 [(9,7)] Qe K9 λa2 z0=>?_;refine AH (!((r).2.2.2.2==0)) (λz=>?_) (λz=>?_)
 ·refine CZ (CK (λ_=>false) 400 [] (AE Qe)).1 [(4,2)] AEh z0 λz1 n1=>?_;exact AQ n1 (2,0) _ (by unfold Kq;rw[c5,z]<;>rfl)
 obtain⟨c1,b1,t,q0⟩:=o 2 k2 rfl;refine CZ (CK (Hd (HM 68)) 400 [true] (AG Qe)).1 [(9,7),(35,3)] dV z0 λy1 x0=>?_;refine Aw (g:=gk) (off:=l) (cap:=m) (sz:=10) (k:=2) (len:=3) (some 21) (by decide) Tryz.underlying68 ?_;refine Bd 70 gk (l+2*10) _ (some 22) (Aj t e0 x0.B) ?_;refine CZ (CK (λ_=>false) 400 [] (AD (AD dV))).1 [(2,0),(8,8)] dU x0 λa1 h0=>?_;refine AW h0 (args:=[D [V d ns.length j,V b ss.length i,V a p.length f],D ((ω k2 c1 b1))]) (o1 a1 h0.B _ _ (q0.below h0.B)) λx1 m1=>?_;refine CZ (CK (λ_=>false) 400 [] (AD dU)).1 [(9,9)] Ng m1 λv1 w0=>?_;refine AH (!((q).2.2.2.2==0)) (λg0=>?_) (λg0=>?_)
 ·refine CZ (CK (λ_=>false) 400 [] (AE Ng)).1 [(4,2)] AAd w0 λt1 l1=>?_;exact AQ l1 (2,0) _ (by unfold Kq;rw[c5,z,g0]<;>rfl)
 refine CZ (CK (Gs 10) 400 [false] (AG Ng)).1 [(9,9),(35,3)] AAc w0 λi0 i1=>?_;have h1:Wk w i0 [N (U w) [V d ns.length j,V b ss.length i,V a p.length f] 174,N (U w+1) [J x.op,J x.num,J x.den,J x.mu,J x.hu,J x.du,Y (x.nm),J x.cnt,J x.md,V (some ⟨gk,l,none⟩) 3 m] 70,N (U w+2) [I false,J 0,J 0,J 0] 65,N (U w+3) [I ((s).1),J ((s).2.1),J ((s).2.2.1),J ((s).2.2.2.1),I ((r).1),J ((r).2.1),J ((r).2.2.1),J ((r).2.2.2.1),I ((q).1),J ((q).2.1),J ((q).2.2.1),J ((q).2.2.2.1)] 185] [] []:=i1.pk [0,1,2,3] [];refine AX [(2,Z (U w)),(3,Z (U w+1)),(4,Z (U w+2)),(6,Z (U w+3))] λs1=>?_;refine Ol (todo':=SD) (by kernel_rfl) ?_;exact KN ns ss p x (s.1,s.2.1,s.2.2.1,s.2.2.2.1) (r.1,r.2.1,r.2.2.1,r.2.2.2.1) (q.1,q.2.1,q.2.2.1,q.2.2.2.1) d b a (some ⟨gk,l,none⟩) j i f 3 m (U w) (U w+1) (U w+2) (U w+3) s1 w i0 p0 d0 l0 b0 m0 c0 h1 (λ_ _ h=>⟨h.1.trans (by unfold Kq;rw[c5,z,g0]<;>rfl),h.2⟩)
end
end Go.Proofs.YtkpemkkbjfbmaaaGreat

/- Contracts of functions, part 14. -/
import Derived.Test.YtkjbdagicjbjjaaGreatTs10
set_option linter.all false
namespace Go.Proofs.YtkjbdagicjbjjaaGreat
noncomputable section
open Go.RowKit
set_option maxRecDepth 100000
set_option maxHeartbeats 1000000
attribute [local irreducible] BD BP AC AD AF Ar AZ AM Aw Bk C6 BV BO At Fr
def DM (ns:List Df) (ss:List Df) (ps:List Df) (x:Ex) (k0:Bool×Int×Int×Int) (k1:Bool×Int×Int×Int) (k2:Bool×Int×Int×Int):Bool×Int×Int×Int×Int:=cond (x.op == 1) ((false,x.mu,x.hu,x.du,0)) (cond (x.op == 2) ((true,0,0,0,0)) (cond (x.op == 3) (CK ns x.nm) (cond (x.op == 20) (CK ps x.nm) (cond (x.op == 21) (CK ps x.nm) (cond (x.op == 4) (cond ((CK ss x.nm).2.2.2.2 == 0) (Ab ((CK ss x.nm).1) ((CK ss x.nm).2.1) ((CK ss x.nm).2.2.1) ((CK ss x.nm).2.2.2.1) (Da k0.1 k0.2.1 k0.2.2.1 k0.2.2.2 0 0 0)) (Ab ((CK ss x.nm).1) ((CK ss x.nm).2.1) ((CK ss x.nm).2.2.1) ((CK ss x.nm).2.2.2.1) ((CK ss x.nm).2.2.2.2))) (cond (x.op == 5) (Ab k0.1 k0.2.1 k0.2.2.1 k0.2.2.2 (BL k0.1 k0.2.1 k0.2.2.1 k0.2.2.2 k1.1 k1.2.1 k1.2.2.1 k1.2.2.2)) (cond (x.op == 6) (Ab k0.1 k0.2.1 k0.2.2.1 k0.2.2.2 (BL k0.1 k0.2.1 k0.2.2.1 k0.2.2.2 k1.1 k1.2.1 k1.2.2.1 k1.2.2.2)) (cond (x.op == 14) (Ab k0.1 k0.2.1 k0.2.2.1 k0.2.2.2 (BL k0.1 k0.2.1 k0.2.2.1 k0.2.2.2 k1.1 k1.2.1 k1.2.2.1 k1.2.2.2)) (cond (x.op == 15) (Ab k0.1 k0.2.1 k0.2.2.1 k0.2.2.2 (BL k0.1 k0.2.1 k0.2.2.1 k0.2.2.2 k1.1 k1.2.1 k1.2.2.1 k1.2.2.2)) (cond (x.op == 7) (GF x.op k0.1 k0.2.1 k0.2.2.1 k0.2.2.2 k1.1 k1.2.1 k1.2.2.1 k1.2.2.2) (cond (x.op == 8) (GF x.op k0.1 k0.2.1 k0.2.2.1 k0.2.2.2 k1.1 k1.2.1 k1.2.2.1 k1.2.2.2) (cond (x.op == 9) (Ab true 0 0 0 (BL k0.1 k0.2.1 k0.2.2.1 k0.2.2.2 k1.1 k1.2.1 k1.2.2.1 k1.2.2.2)) (cond (x.op == 10) (Ab true 0 0 0 (BL k0.1 k0.2.1 k0.2.2.1 k0.2.2.2 k1.1 k1.2.1 k1.2.2.1 k1.2.2.2)) (cond (x.op == 11) (Ab true 0 0 0 (Gb k0.1 k0.2.1 k0.2.2.1 k0.2.2.2 k1.1 k1.2.1 k1.2.2.1 k1.2.2.2)) (cond (x.op == 12) (Ab true 0 0 0 (Az [(k0.1,k0.2.1,k0.2.2.1,k0.2.2.2),(k1.1,k1.2.1,k1.2.2.1,k1.2.2.2)])) (cond (x.op == 13) (Ab true 0 0 0 (Az [(k0.1,k0.2.1,k0.2.2.1,k0.2.2.2),(k1.1,k1.2.1,k1.2.2.1,k1.2.2.2)])) (cond (x.op == 17) (Ab true 0 0 0 (Az [(k0.1,k0.2.1,k0.2.2.1,k0.2.2.2)])) (cond (x.op == 16) (Ab k0.1 k0.2.1 k0.2.2.1 k0.2.2.2 (CS [(k0.1,k0.2.1,k0.2.2.1,k0.2.2.2)])) (cond (x.op == 18) (cond (Az [(k0.1,k0.2.1,k0.2.2.1,k0.2.2.2)] == 0) (Ab k1.1 k1.2.1 k1.2.2.1 k1.2.2.2 (Gb k1.1 k1.2.1 k1.2.2.1 k1.2.2.2 k2.1 k2.2.1 k2.2.2.1 k2.2.2.2)) (Ab k1.1 k1.2.1 k1.2.2.1 k1.2.2.2 (Az [(k0.1,k0.2.1,k0.2.2.1,k0.2.2.2)]))) (cond (x.op == 19) (Ab k0.1 k0.2.1 k0.2.2.1 k0.2.2.2 (Da k0.1 k0.2.1 k0.2.2.1 k0.2.2.2 x.mu x.hu x.du)) ((false,0,0,0,1))))))))))))))))))))))
abbrev I2:=Bool×Int×Int×Int×Int
noncomputable def ABd:Code:=Tryz.f112.body.getD .skip
def AFc:=ν [.code ABd]
def AFb:=ν (Ar AFc)
def Ry:=Al 10 (AF AFb)
def eD:=ν (Ry)
def ADy:=Ξ eD
def eC:=Ψ eD
def ADx:=Ξ eC
def eB:=Ψ eC
def uS:=Ξ eB
def ADw:=Ω uS
def eA:=Ψ eB
def uR:=Ξ eA
def uQ:=Ξ uR
def AAD:=Ω uQ
def We:=Ψ eA
def lg:=Ξ We
def AAC:=Ω lg
def Wd:=Ψ We
def lf:=Ξ Wd
def Wc:=Ω lf
def ld:=Ξ Wc
def lc:=Ω ld
def AAB:=Ω lc
def lb:=Ψ Wc
def AAA:=Ω lb
def Wb:=Ψ Wd
def la:=Ξ Wb
def lZ:=Al 30 (AD la)
def z8:=AI lZ
def Wa:=Ψ Wb
def lY:=Ξ Wa
def lX:=Al 30 (AD lY)
def z6:=AI lX
def WZ:=Ψ Wa
def lW:=Ξ WZ
def lV:=Al 30 (AD lW)
def zz:=AI lV
def WY:=Ψ WZ
def lU:=Al 30 (AD WY)
def zy:=AI lU
def WX:=Ψ WY
def lT:=Ξ WX
def lS:=Ξ lT
def zx:=Ω lS
def WW:=Ψ WX
def lR:=Ξ WW
def zw:=Ω lR
def WV:=Ψ WW
def lQ:=Ξ WV
def lP:=Al 36 (AD lQ)
def zv:=AI lP
def WU:=Ψ WV
def lO:=Al 36 (AD WU)
def zu:=AI lO
def WT:=Ψ WU
def lN:=Al 38 (AD WT)
def zt:=AI lN
def WS:=Ψ WT
def lM:=Ξ WS
def WR:=Al 41 (AD lM)
def PW:Array Oper:=(FY WR).getD #[]
def vh:Wr:=[(141,0),(142,1),(143,2),(144,3),(145,4),(146,5),(147,6),(148,7),(149,8),(150,9)]
def zr:=AI WR
def WQ:=Ψ WS
def WP:=Al 41 (AD WQ)
def Md:Array Oper:=(FY WP).getD #[]
def iE:Wr:=[(141,0),(142,1),(143,2),(144,3),(145,4),(146,5),(147,6),(148,7),(149,8),(150,9)]
def zq:=AI WP
def WO:=Ψ WQ
def WN:=Al 43 (AD WO)
def PV:Array Oper:=(FY WN).getD #[]
def vg:Wr:=[(153,0),(154,1),(155,2),(156,3),(157,4),(158,5),(159,6),(160,7)]
def zp:=AI WN
def WM:=Ψ WO
def WL:=Al 45 (AD WM)
def PU:Array Oper:=(FY WL).getD #[]
def ve:Wr:=[(163,0),(164,1),(165,2),(166,3),(167,4),(168,5),(169,6),(170,7),(171,8)]
def zo:=AI WL
def WK:=Ψ WM
def lL:=Ξ WK
def WJ:=Ω lL
def lK:=Ξ WJ
def lJ:=Ω lK
def zn:=Ω lJ
def lI:=Ψ WJ
def zm:=Ω lI
def WI:=Ψ WK
def lH:=Al 52 (AD WI)
def zl:=AI lH
def zk:=Ψ WI
def Js (r:I2):Value:=.tuple #[ψ [ξ (r.1),δ (r.2.1),δ (r.2.2.1),δ (r.2.2.2.1)],δ (r.2.2.2.2)]
theorem Jt {R:Ending→World→Prop} (ns ss ps:List Df) (x:Ex) (a b k2:Bool×Int×Int×Int) (s0 r0 i0 pA:Option Addr) (v0 t0 q0 pk pc g2 g3 g4 z:Nat) (E0:Nat→Value) (w we:World) (r2:rowsDf w s0 ns) (u8:ns.length≤4294967296) (q2:rowsDf w r0 ss) (k8:ss.length≤4294967296) (l1:rowsDf w i0 ps) (q8:ps.length≤4294967296) (K:Wk w we [ι g2 [τ s0 ns.length v0,τ r0 ss.length t0,τ i0 ps.length q0] 178,ι g3 [δ x.op,δ x.num,δ x.den,δ x.mu,δ x.hu,δ x.du,η (x.nm),δ x.cnt,δ x.md,τ pA pk pc] 53,ι g4 [ξ false,δ 0,δ 0,δ 0] 56,ι z [ξ (a.1),δ a.2.1,δ a.2.2.1,δ a.2.2.2,ξ (b.1),δ b.2.1,δ b.2.2.1,δ b.2.2.2,ξ (k2.1),δ k2.2.1,δ k2.2.2.1,δ k2.2.2.2] 188] [] []) (o:∀ e w',(e=.returned (Js (DM ns ss ps x a b k2))∧Below (ε w) w w')→R e w'):At Tryz.prog 112 R Ry (Fr 204 (BE E0 [(2,ζ g2),(3,ζ g3),(4,ζ g4),(6,ζ z)])) we:=by
 refine Ah eD [ι g2 [τ s0 ns.length v0,τ r0 ss.length t0,τ i0 ps.length q0] 178,ι g3 [δ x.op,δ x.num,δ x.den,δ x.mu,δ x.hu,δ x.du,η (x.nm),δ x.cnt,δ x.md,τ pA pk pc] 53,ι g4 [ξ false,δ 0,δ 0,δ 0] 56,ι z [ξ (a.1),δ a.2.1,δ a.2.2.1,δ a.2.2.2,ξ (b.1),δ b.2.1,δ b.2.2.1,δ b.2.2.2,ξ (k2.1),δ k2.2.1,δ k2.2.2.1,δ k2.2.2.2] 188,ι (ε we) [ξ true,δ 0,δ 0,δ 0] 56] K [(4,0),(1,0)] fun w1 K1=>?_
 refine AG (x.op == 1) (fun y=>?_) (fun y=>?_)
 ·refine Am ADy K1 [(1,3),(2,0)] fun w3 K2=>?_
  exact AK K2 (2,0) (.tuple #[ψ [ξ false,δ x.mu,δ x.hu,δ x.du],δ 0]) (o _ _ ⟨by unfold DM; rw [y] <;> rfl,K2.B⟩)
 refine AB eC K1 [] fun w4 K3=>?_
 refine AG (x.op == 2) (fun c5=>?_) (fun c5=>?_)
 ·refine Am ADx K3 [(4,0),(2,0)] fun w6 K4=>?_
  exact AK K4 (2,0) (.tuple #[ψ [ξ true,δ 0,δ 0,δ 0],δ 0]) (o _ _ ⟨by unfold DM; rw [y,c5] <;> rfl,K4.B⟩)
 refine AB eB K3 [] fun w7 K5=>?_
 refine AG (x.op == 3) (fun c8=>?_) (fun c8=>?_)
 ·refine AB uS K5 [(0,0),(1,6)] fun w9 K6=>?_
  refine AP K6 (Mq s0 ns v0 x.nm w9 (r2.below K6.B) (by first | assumption | omega | (simp <;> omega))) fun w10 K7=>?_
  refine Am ADw K7 [(2,0)] fun w11 K8=>?_
  exact AK K8 (2,0) (RR (CK ns x.nm)) (o _ _ ⟨by unfold DM; rw [y,c5,c8] <;> rfl,K8.B⟩)
 refine AB eA K5 [] fun w12 K9=>?_
 refine AG (x.op == 20) (fun d=>?_) (fun d=>?_)
 ·refine AB uR K9 [] fun w14 vy=>?_
  refine AG (x.op == 20) (fun _=>?_) (fun h=>nomatch h.symm.trans d)
  refine AB uQ vy [(0,2),(1,6)] fun b8 f6=>?_
  refine AP f6 (Mq i0 ps q0 x.nm b8 (l1.below f6.B) (by first | assumption | omega | (simp <;> omega))) fun w17 vx=>?_
  refine Am AAD vx [(2,0)] fun w18 b6=>?_
  exact AK b6 (2,0) (RR (CK ps x.nm)) (o _ _ ⟨by unfold DM; rw [y,c5,c8,d] <;> rfl,b6.B⟩)
 refine AB We K9 [] fun w19 a6=>?_
 refine AG (x.op == 21) (fun g=>?_) (fun g=>?_)
 ·refine AB lg a6 [(0,2),(1,6)] fun a8 z5=>?_
  refine AP z5 (Mq i0 ps q0 x.nm a8 (l1.below z5.B) (by first | assumption | omega | (simp <;> omega))) fun w22 vv=>?_
  refine Am AAC vv [(2,0)] fun w23 w5=>?_
  exact AK w5 (2,0) (RR (CK ps x.nm)) (o _ _ ⟨by unfold DM; rw [y,c5,c8,d,g] <;> rfl,w5.B⟩)
 refine AB Wd a6 [] fun w24 v5=>?_
 refine AG (x.op == 4) (fun j=>?_) (fun j=>?_)
 ·refine AB lf v5 [(0,1),(1,6)] fun z7 u5=>?_
  refine AP u5 (Mq r0 ss t0 x.nm z7 (q2.below u5.B) (by first | assumption | omega | (simp <;> omega))) fun w27 vs=>?_
  refine Am Wc vs [(5,0)] fun w28 t5=>?_
  refine AG ((CK ss x.nm).2.2.2.2 == 0) (fun t1=>?_) (fun t1=>?_)
  ·refine AB ld t5 [(3,0)] fun v7 vi=>?_
   refine AP vi (Kg a.1 a.2.1 a.2.2.1 a.2.2.2 0 0 0 v7) fun w31 vf=>?_
   refine AB lc vf [(5,0)] fun q7 vd=>?_
   refine AP vd (DW ((CK ss x.nm).1) ((CK ss x.nm).2.1) ((CK ss x.nm).2.2.1) ((CK ss x.nm).2.2.2.1) (Da a.1 a.2.1 a.2.2.1 a.2.2.2 0 0 0) q7) fun w33 vb=>?_
   refine Am AAB vb [(2,0)] fun w34 q5=>?_
   exact AK q5 (2,0) (CB (Ab ((CK ss x.nm).1) ((CK ss x.nm).2.1) ((CK ss x.nm).2.2.1) ((CK ss x.nm).2.2.2.1) (Da a.1 a.2.1 a.2.2.1 a.2.2.2 0 0 0))) (o _ _ ⟨by unfold DM; rw [y,c5,c8,d,g,j,t1] <;> rfl,q5.B⟩)
  refine AB lb t5 [(5,0)] fun k7 va=>?_
  refine AP va (DW ((CK ss x.nm).1) ((CK ss x.nm).2.1) ((CK ss x.nm).2.2.1) ((CK ss x.nm).2.2.2.1) ((CK ss x.nm).2.2.2.2) k7) fun w36 zs=>?_
  refine Am AAA zs [(2,0)] fun w37 k5=>?_
  exact AK k5 (2,0) (CB (Ab ((CK ss x.nm).1) ((CK ss x.nm).2.1) ((CK ss x.nm).2.2.1) ((CK ss x.nm).2.2.2.1) ((CK ss x.nm).2.2.2.2))) (o _ _ ⟨by unfold DM; rw [y,c5,c8,d,g,j,t1] <;> rfl,k5.B⟩)
 refine AB Wb v5 [] fun w38 g5=>?_
 refine AG (x.op == 5) (fun l=>?_) (fun l=>?_)
 ·refine AB la g5 [] fun w40 za=>?_
  refine AG (x.op == 5) (fun _=>?_) (fun h=>nomatch h.symm.trans l)
  refine As 30 lZ za [] fun w42 e5=>?_
  refine GD e5 [0,1,2,3,4,5,6,7,8,9] [(1,3,0),(3,3,0),(5,3,4)] [⟨6,[(96,ψ [ξ (a.1),δ a.2.1,δ a.2.2.1,δ a.2.2.2]),(98,ψ [ξ (b.1),δ b.2.1,δ b.2.2.1,δ b.2.2.2])],δ (BL a.1 a.2.1 a.2.2.1 a.2.2.2 b.1 b.2.1 b.2.2.1 b.2.2.2),true⟩,⟨7,[(94,ψ [ξ (a.1),δ a.2.1,δ a.2.2.1,δ a.2.2.2]),(99,δ (BL a.1 a.2.1 a.2.2.1 a.2.2.2 b.1 b.2.1 b.2.2.1 b.2.2.2))],CB (Ab a.1 a.2.1 a.2.2.1 a.2.2.2 (BL a.1 a.2.1 a.2.2.1 a.2.2.2 b.1 b.2.1 b.2.2.1 b.2.2.2)),true⟩] [(10,2,0),(11,0,0)] e5.G (fun sp c=>?_) fun z43 w43 xs=>?_
  ·simp only [List.mem_cons,List.not_mem_nil,or_false] at c
   rcases c with rfl | rfl
   ·exact AY 128 [.tmp 96,.tmp 98] _ (fun _=>by kernel_rfl) fun hc u hu=>AQ hu (Fi a.1 a.2.1 a.2.2.1 a.2.2.2 b.1 b.2.1 b.2.2.1 b.2.2.2 u)
   exact AY 127 [.tmp 94,.tmp 99] _ (fun _=>by kernel_rfl) fun hc u hu=>AQ hu (DW a.1 a.2.1 a.2.2.1 a.2.2.2 (BL a.1 a.2.1 a.2.2.1 a.2.2.2 b.1 b.2.1 b.2.2.1 b.2.2.2) u)
  refine AB z8 xs [] fun w44 b5=>?_
  exact AK b5 (2,0) (CB (Ab a.1 a.2.1 a.2.2.1 a.2.2.2 (BL a.1 a.2.1 a.2.2.1 a.2.2.2 b.1 b.2.1 b.2.2.1 b.2.2.2))) (o _ _ ⟨by unfold DM; rw [y,c5,c8,d,g,j,l] <;> rfl,b5.B⟩)
 refine AB Wa g5 [] fun w45 a5=>?_
 refine AG (x.op == 6) (fun m=>?_) (fun m=>?_)
 ·refine AB lY a5 [] fun w47 xb=>?_
  refine AG (x.op == 6) (fun _=>?_) (fun h=>nomatch h.symm.trans m)
  refine As 30 lX xb [] fun w49 z4=>?_
  refine GD z4 [0,1,2,3,4,5,6,7,8,9] [(1,3,0),(3,3,0),(5,3,4)] [⟨6,[(96,ψ [ξ (a.1),δ a.2.1,δ a.2.2.1,δ a.2.2.2]),(98,ψ [ξ (b.1),δ b.2.1,δ b.2.2.1,δ b.2.2.2])],δ (BL a.1 a.2.1 a.2.2.1 a.2.2.2 b.1 b.2.1 b.2.2.1 b.2.2.2),true⟩,⟨7,[(94,ψ [ξ (a.1),δ a.2.1,δ a.2.2.1,δ a.2.2.2]),(99,δ (BL a.1 a.2.1 a.2.2.1 a.2.2.2 b.1 b.2.1 b.2.2.1 b.2.2.2))],CB (Ab a.1 a.2.1 a.2.2.1 a.2.2.2 (BL a.1 a.2.1 a.2.2.1 a.2.2.2 b.1 b.2.1 b.2.2.1 b.2.2.2)),true⟩] [(10,2,0),(11,0,0)] z4.G (fun sp c=>?_) fun z50 w50 kx=>?_
  ·simp only [List.mem_cons,List.not_mem_nil,or_false] at c
   rcases c with rfl | rfl
   ·exact AY 128 [.tmp 96,.tmp 98] _ (fun _=>by kernel_rfl) fun hc u hu=>AQ hu (Fi a.1 a.2.1 a.2.2.1 a.2.2.2 b.1 b.2.1 b.2.2.1 b.2.2.2 u)
   exact AY 127 [.tmp 94,.tmp 99] _ (fun _=>by kernel_rfl) fun hc u hu=>AQ hu (DW a.1 a.2.1 a.2.2.1 a.2.2.2 (BL a.1 a.2.1 a.2.2.1 a.2.2.2 b.1 b.2.1 b.2.2.1 b.2.2.2) u)
  refine AB z6 kx [] fun w51 v4=>?_
  exact AK v4 (2,0) (CB (Ab a.1 a.2.1 a.2.2.1 a.2.2.2 (BL a.1 a.2.1 a.2.2.1 a.2.2.2 b.1 b.2.1 b.2.2.1 b.2.2.2))) (o _ _ ⟨by unfold DM; rw [y,c5,c8,d,g,j,l,m] <;> rfl,v4.B⟩)
 refine AB WZ a5 [] fun w52 t4=>?_
 refine AG (x.op == 14) (fun n=>?_) (fun n=>?_)
 ·refine AB lW t4 [] fun w54 kv=>?_
  refine AG (x.op == 14) (fun _=>?_) (fun h=>nomatch h.symm.trans n)
  refine As 30 lV kv [] fun w56 q4=>?_
  refine GD q4 [0,1,2,3,4,5,6,7,8,9] [(1,3,0),(3,3,0),(5,3,4)] [⟨6,[(96,ψ [ξ (a.1),δ a.2.1,δ a.2.2.1,δ a.2.2.2]),(98,ψ [ξ (b.1),δ b.2.1,δ b.2.2.1,δ b.2.2.2])],δ (BL a.1 a.2.1 a.2.2.1 a.2.2.2 b.1 b.2.1 b.2.2.1 b.2.2.2),true⟩,⟨7,[(94,ψ [ξ (a.1),δ a.2.1,δ a.2.2.1,δ a.2.2.2]),(99,δ (BL a.1 a.2.1 a.2.2.1 a.2.2.2 b.1 b.2.1 b.2.2.1 b.2.2.2))],CB (Ab a.1 a.2.1 a.2.2.1 a.2.2.2 (BL a.1 a.2.1 a.2.2.1 a.2.2.2 b.1 b.2.1 b.2.2.1 b.2.2.2)),true⟩] [(10,2,0),(11,0,0)] q4.G (fun sp c=>?_) fun z57 w57 ks=>?_
  ·simp only [List.mem_cons,List.not_mem_nil,or_false] at c
   rcases c with rfl | rfl
   ·exact AY 128 [.tmp 96,.tmp 98] _ (fun _=>by kernel_rfl) fun hc u hu=>AQ hu (Fi a.1 a.2.1 a.2.2.1 a.2.2.2 b.1 b.2.1 b.2.2.1 b.2.2.2 u)
   exact AY 127 [.tmp 94,.tmp 99] _ (fun _=>by kernel_rfl) fun hc u hu=>AQ hu (DW a.1 a.2.1 a.2.2.1 a.2.2.2 (BL a.1 a.2.1 a.2.2.1 a.2.2.2 b.1 b.2.1 b.2.2.1 b.2.2.2) u)
  refine AB zz ks [] fun w58 p4=>?_
  exact AK p4 (2,0) (CB (Ab a.1 a.2.1 a.2.2.1 a.2.2.2 (BL a.1 a.2.1 a.2.2.1 a.2.2.2 b.1 b.2.1 b.2.2.1 b.2.2.2))) (o _ _ ⟨by unfold DM; rw [y,c5,c8,d,g,j,l,m,n] <;> rfl,p4.B⟩)
 refine AB WY t4 [] fun w59 n4=>?_
 refine AG (x.op == 15) (fun q=>?_) (fun q=>?_)
 ·refine As 30 lU n4 [] fun w61 k4=>?_
  refine GD k4 [0,1,2,3,4,5,6,7,8,9] [(1,3,0),(3,3,0),(5,3,4)] [⟨6,[(96,ψ [ξ (a.1),δ a.2.1,δ a.2.2.1,δ a.2.2.2]),(98,ψ [ξ (b.1),δ b.2.1,δ b.2.2.1,δ b.2.2.2])],δ (BL a.1 a.2.1 a.2.2.1 a.2.2.2 b.1 b.2.1 b.2.2.1 b.2.2.2),true⟩,⟨7,[(94,ψ [ξ (a.1),δ a.2.1,δ a.2.2.1,δ a.2.2.2]),(99,δ (BL a.1 a.2.1 a.2.2.1 a.2.2.2 b.1 b.2.1 b.2.2.1 b.2.2.2))],CB (Ab a.1 a.2.1 a.2.2.1 a.2.2.2 (BL a.1 a.2.1 a.2.2.1 a.2.2.2 b.1 b.2.1 b.2.2.1 b.2.2.2)),true⟩] [(10,2,0),(11,0,0)] k4.G (fun sp c=>?_) fun z62 w62 kp=>?_
  ·simp only [List.mem_cons,List.not_mem_nil,or_false] at c
   rcases c with rfl | rfl
   ·exact AY 128 [.tmp 96,.tmp 98] _ (fun _=>by kernel_rfl) fun hc u hu=>AQ hu (Fi a.1 a.2.1 a.2.2.1 a.2.2.2 b.1 b.2.1 b.2.2.1 b.2.2.2 u)
   exact AY 127 [.tmp 94,.tmp 99] _ (fun _=>by kernel_rfl) fun hc u hu=>AQ hu (DW a.1 a.2.1 a.2.2.1 a.2.2.2 (BL a.1 a.2.1 a.2.2.1 a.2.2.2 b.1 b.2.1 b.2.2.1 b.2.2.2) u)
  refine AB zy kp [] fun w63 f4=>?_
  exact AK f4 (2,0) (CB (Ab a.1 a.2.1 a.2.2.1 a.2.2.2 (BL a.1 a.2.1 a.2.2.1 a.2.2.2 b.1 b.2.1 b.2.2.1 b.2.2.2))) (o _ _ ⟨by unfold DM; rw [y,c5,c8,d,g,j,l,m,n,q] <;> rfl,f4.B⟩)
 refine AB WX n4 [] fun w64 e4=>?_
 refine AG (x.op == 7) (fun p=>?_) (fun p=>?_)
 ·refine AB lT e4 [] fun w66 kn=>?_
  refine AG (x.op == 7) (fun _=>?_) (fun h=>nomatch h.symm.trans p)
  refine AB lS kn [(1,0),(3,0),(3,4)] fun f7 kl=>?_
  refine AP kl (Oq x.op a.1 a.2.1 a.2.2.1 a.2.2.2 b.1 b.2.1 b.2.2.1 b.2.2.2 f7) fun w69 kk=>?_
  refine Am zx kk [(2,0)] fun w70 c4=>?_
  exact AK c4 (2,0) (NZ (GF x.op a.1 a.2.1 a.2.2.1 a.2.2.2 b.1 b.2.1 b.2.2.1 b.2.2.2)) (o _ _ ⟨by unfold DM; rw [y,c5,c8,d,g,j,l,m,n,q,p] <;> rfl,c4.B⟩)
 refine AB WW e4 [] fun w71 b4=>?_
 refine AG (x.op == 8) (fun s=>?_) (fun s=>?_)
 ·refine AB lR b4 [(1,0),(3,0),(3,4)] fun c7 kd=>?_
  refine AP kd (Oq x.op a.1 a.2.1 a.2.2.1 a.2.2.2 b.1 b.2.1 b.2.2.1 b.2.2.2 c7) fun w74 kc=>?_
  refine Am zw kc [(2,0)] fun w75 a4=>?_
  exact AK a4 (2,0) (NZ (GF x.op a.1 a.2.1 a.2.2.1 a.2.2.2 b.1 b.2.1 b.2.2.1 b.2.2.2)) (o _ _ ⟨by unfold DM; rw [y,c5,c8,d,g,j,l,m,n,q,p,s] <;> rfl,a4.B⟩)
 refine AB WV b4 [] fun w76 z3=>?_
 refine AG (x.op == 9) (fun r=>?_) (fun r=>?_)
 ·refine AB lQ z3 [] fun w78 ka=>?_
  refine AG (x.op == 9) (fun _=>?_) (fun h=>nomatch h.symm.trans r)
  refine As 36 lP ka [] fun w80 v3=>?_
  refine GD v3 [0,1,2,3,4,5,6,7,8] [(0,4,0),(2,3,0),(4,3,4)] [⟨5,[(120,ψ [ξ (a.1),δ a.2.1,δ a.2.2.1,δ a.2.2.2]),(122,ψ [ξ (b.1),δ b.2.1,δ b.2.2.1,δ b.2.2.2])],δ (BL a.1 a.2.1 a.2.2.1 a.2.2.2 b.1 b.2.1 b.2.2.1 b.2.2.2),true⟩,⟨6,[(118,ψ [ξ true,δ 0,δ 0,δ 0]),(123,δ (BL a.1 a.2.1 a.2.2.1 a.2.2.2 b.1 b.2.1 b.2.2.1 b.2.2.2))],CB (Ab true 0 0 0 (BL a.1 a.2.1 a.2.2.1 a.2.2.2 b.1 b.2.1 b.2.2.1 b.2.2.2)),true⟩] [(9,2,0),(10,0,0)] v3.G (fun sp c=>?_) fun z81 w81 qc=>?_
  ·simp only [List.mem_cons,List.not_mem_nil,or_false] at c
   rcases c with rfl | rfl
   ·exact AY 128 [.tmp 120,.tmp 122] _ (fun _=>by kernel_rfl) fun hc u hu=>AQ hu (Fi a.1 a.2.1 a.2.2.1 a.2.2.2 b.1 b.2.1 b.2.2.1 b.2.2.2 u)
   exact AY 127 [.tmp 118,.tmp 123] _ (fun _=>by kernel_rfl) fun hc u hu=>AQ hu (DW true 0 0 0 (BL a.1 a.2.1 a.2.2.1 a.2.2.2 b.1 b.2.1 b.2.2.1 b.2.2.2) u)
  refine AB zv qc [] fun w82 t3=>?_
  exact AK t3 (2,0) (CB (Ab true 0 0 0 (BL a.1 a.2.1 a.2.2.1 a.2.2.2 b.1 b.2.1 b.2.2.1 b.2.2.2))) (o _ _ ⟨by unfold DM; rw [y,c5,c8,d,g,j,l,m,n,q,p,s,r] <;> rfl,t3.B⟩)
 refine AB WU z3 [] fun w83 r3=>?_
 refine AG (x.op == 10) (fun b0=>?_) (fun b0=>?_)
 ·refine As 36 lO r3 [] fun w85 q3=>?_
  refine GD q3 [0,1,2,3,4,5,6,7,8] [(0,4,0),(2,3,0),(4,3,4)] [⟨5,[(120,ψ [ξ (a.1),δ a.2.1,δ a.2.2.1,δ a.2.2.2]),(122,ψ [ξ (b.1),δ b.2.1,δ b.2.2.1,δ b.2.2.2])],δ (BL a.1 a.2.1 a.2.2.1 a.2.2.2 b.1 b.2.1 b.2.2.1 b.2.2.2),true⟩,⟨6,[(118,ψ [ξ true,δ 0,δ 0,δ 0]),(123,δ (BL a.1 a.2.1 a.2.2.1 a.2.2.2 b.1 b.2.1 b.2.2.1 b.2.2.2))],CB (Ab true 0 0 0 (BL a.1 a.2.1 a.2.2.1 a.2.2.2 b.1 b.2.1 b.2.2.1 b.2.2.2)),true⟩] [(9,2,0),(10,0,0)] q3.G (fun sp c=>?_) fun z86 w86 qb=>?_
  ·simp only [List.mem_cons,List.not_mem_nil,or_false] at c
   rcases c with rfl | rfl
   ·exact AY 128 [.tmp 120,.tmp 122] _ (fun _=>by kernel_rfl) fun hc u hu=>AQ hu (Fi a.1 a.2.1 a.2.2.1 a.2.2.2 b.1 b.2.1 b.2.2.1 b.2.2.2 u)
   exact AY 127 [.tmp 118,.tmp 123] _ (fun _=>by kernel_rfl) fun hc u hu=>AQ hu (DW true 0 0 0 (BL a.1 a.2.1 a.2.2.1 a.2.2.2 b.1 b.2.1 b.2.2.1 b.2.2.2) u)
  refine AB zu qb [] fun w87 p3=>?_
  exact AK p3 (2,0) (CB (Ab true 0 0 0 (BL a.1 a.2.1 a.2.2.1 a.2.2.2 b.1 b.2.1 b.2.2.1 b.2.2.2))) (o _ _ ⟨by unfold DM; rw [y,c5,c8,d,g,j,l,m,n,q,p,s,r,b0] <;> rfl,p3.B⟩)
 refine AB WT r3 [] fun w88 o3=>?_
 refine AG (x.op == 11) (fun e0=>?_) (fun e0=>?_)
 ·refine As 38 lN o3 [] fun w90 n3=>?_
  refine GD n3 [0,1,2,3,4,5,6,7,8] [(0,4,0),(2,3,0),(4,3,4)] [⟨5,[(131,ψ [ξ (a.1),δ a.2.1,δ a.2.2.1,δ a.2.2.2]),(133,ψ [ξ (b.1),δ b.2.1,δ b.2.2.1,δ b.2.2.2])],δ (Gb a.1 a.2.1 a.2.2.1 a.2.2.2 b.1 b.2.1 b.2.2.1 b.2.2.2),true⟩,⟨6,[(129,ψ [ξ true,δ 0,δ 0,δ 0]),(134,δ (Gb a.1 a.2.1 a.2.2.1 a.2.2.2 b.1 b.2.1 b.2.2.1 b.2.2.2))],CB (Ab true 0 0 0 (Gb a.1 a.2.1 a.2.2.1 a.2.2.2 b.1 b.2.1 b.2.2.1 b.2.2.2)),true⟩] [(9,2,0),(10,0,0)] n3.G (fun sp c=>?_) fun z91 w91 z9=>?_
  ·simp only [List.mem_cons,List.not_mem_nil,or_false] at c
   rcases c with rfl | rfl
   ·exact AY 130 [.tmp 131,.tmp 133] _ (fun _=>by kernel_rfl) fun hc u hu=>AQ hu (TD a.1 a.2.1 a.2.2.1 a.2.2.2 b.1 b.2.1 b.2.2.1 b.2.2.2 u)
   exact AY 127 [.tmp 129,.tmp 134] _ (fun _=>by kernel_rfl) fun hc u hu=>AQ hu (DW true 0 0 0 (Gb a.1 a.2.1 a.2.2.1 a.2.2.2 b.1 b.2.1 b.2.2.1 b.2.2.2) u)
  refine AB zt z9 [] fun w92 m3=>?_
  exact AK m3 (2,0) (CB (Ab true 0 0 0 (Gb a.1 a.2.1 a.2.2.1 a.2.2.2 b.1 b.2.1 b.2.2.1 b.2.2.2))) (o _ _ ⟨by unfold DM; rw [y,c5,c8,d,g,j,l,m,n,q,p,s,r,b0,e0] <;> rfl,m3.B⟩)
 refine AB WS o3 [] fun w93 l3=>?_
 refine AG (x.op == 12) (fun d0=>?_) (fun d0=>?_)
 ·refine AB lM l3 [] fun w95 v9=>?_
  refine AG (x.op == 12) (fun _=>?_) (fun h=>nomatch h.symm.trans d0)
  refine As 41 WR v9 [] fun f1 i1=>?_
  refine ER PW 12 ?_
  refine D8 (md:=.any) (fuel:=2) (L:=[Bd 0 [] (ψ [ξ true,δ 0,δ 0,δ 0]),Bd 1 [] (ζ z),Bd 2 [1] (ψ [ξ (a.1),δ a.2.1,δ a.2.2.1,δ a.2.2.2]),Bd 3 [] (.pointer (some ⟨z,4,none⟩)),Bd 4 [3] (ψ [ξ (b.1),δ b.2.1,δ b.2.2.1,δ b.2.2.2]),⟨5,[2,4],[5],KT 2 4 [[ξ (a.1),δ a.2.1,δ a.2.2.1,δ a.2.2.2],[ξ (b.1),δ b.2.1,δ b.2.2.1,δ b.2.2.2]]⟩,Bd 6 [5] (δ (Az [(a.1,a.2.1,a.2.2.1,a.2.2.2),(b.1,b.2.1,b.2.2.1,b.2.2.2)])),Bd 7 [0,6] (CB (Ab true 0 0 0 (Az [(a.1,a.2.1,a.2.2.1,a.2.2.2),(b.1,b.2.1,b.2.2.1,b.2.2.2)]))),Bd 8 [7] (ψ [ξ ((Ab true 0 0 0 (Az [(a.1,a.2.1,a.2.2.1,a.2.2.2),(b.1,b.2.1,b.2.2.1,b.2.2.2)])).1),δ ((Ab true 0 0 0 (Az [(a.1,a.2.1,a.2.2.1,a.2.2.2),(b.1,b.2.1,b.2.2.1,b.2.2.2)])).2.1),δ ((Ab true 0 0 0 (Az [(a.1,a.2.1,a.2.2.1,a.2.2.2),(b.1,b.2.1,b.2.2.1,b.2.2.2)])).2.2.1),δ ((Ab true 0 0 0 (Az [(a.1,a.2.1,a.2.2.1,a.2.2.2),(b.1,b.2.1,b.2.2.1,b.2.2.2)])).2.2.2.1)]),Bd 9 [7] (δ ((Ab true 0 0 0 (Az [(a.1,a.2.1,a.2.2.1,a.2.2.2),(b.1,b.2.1,b.2.2.1,b.2.2.2)])).2.2.2.2))]) (W:=vh) (C:=fun u=>Below (ε f1) f1 u) (Ext:=Fx) (Below.refl _ _).drew Fx.refl (fun _ _ _=>Fx.trans) ⟨?_,?_,?_,?_,?_,?_,?_,?_,?_,?_,trivial⟩ rfl ?_
  ·refine ⟨fun _ _ _ _ _ h=>h,fun vals u hu hb=>?_⟩
   exact AN.knownE [] trivial (AN.reads ⟨0,_,(4,0),[]⟩ (CQ i1.G hu) (ψ [ξ true,δ 0,δ 0,δ 0]) ⟨hu,.refl _,rfl⟩)
  ·refine ⟨fun _ _ _ _ _ h=>h,fun vals u hu hb=>?_⟩
   exact AN.knownE [] trivial (AN.reads ⟨0,[],(0,0),[]⟩ (fun e he=>by cases he) (ζ z) ⟨hu,.refl _,rfl⟩)
  ·refine ⟨fun _ _ _ _ _ h=>h,fun vals u hu hb=>?_⟩
   obtain ⟨h1,_⟩:=hb
   exact AN.knownE [(142,1,ζ z)] ⟨(List.cons.inj h1).1,trivial⟩ (AN.reads ⟨0,_,(3,0),[]⟩ (CQ i1.G hu) (ψ [ξ (a.1),δ a.2.1,δ a.2.2.1,δ a.2.2.2]) ⟨hu,.refl _,rfl⟩)
  ·refine ⟨fun _ _ _ _ _ h=>h,fun vals u hu hb=>?_⟩
   exact AN.knownE [] trivial (AN.reads ⟨0,[],(0,0),[]⟩ (fun e he=>by cases he) (.pointer (some ⟨z,4,none⟩)) ⟨hu,.refl _,rfl⟩)
  ·refine ⟨fun _ _ _ _ _ h=>h,fun vals u hu hb=>?_⟩
   obtain ⟨h3,_⟩:=hb
   exact AN.knownE [(144,3,.pointer (some ⟨z,4,none⟩))] ⟨(List.cons.inj h3).1,trivial⟩ (AN.reads ⟨0,_,(3,4),[]⟩ (CQ i1.G hu) (ψ [ξ (b.1),δ b.2.1,δ b.2.2.1,δ b.2.2.2]) ⟨hu,.refl _,rfl⟩)
  ·refine ⟨fun _ _ _ _ he h=>h.keep he,fun vals u hu hb=>?_⟩
   obtain ⟨h2,h4,_⟩:=hb
   refine AN.knownE [(143,2,ψ [ξ (a.1),δ a.2.1,δ a.2.2.1,δ a.2.2.2]),(145,4,ψ [ξ (b.1),δ b.2.1,δ b.2.2.1,δ b.2.2.2])] ⟨(List.cons.inj h2).1,(List.cons.inj h4).1,trivial⟩ (AN.runsK ⟨ε u,[],(0,0),[]⟩ ⟨ε u + 1,[ι (ε u) [ξ (a.1),δ a.2.1,δ a.2.2.1,δ a.2.2.2,ξ (b.1),δ b.2.1,δ b.2.2.1,δ b.2.2.2] 56],(0,0),[]⟩ (.value (τ (some ⟨ε u,0,none⟩) 2 2)) (τ (some ⟨ε u,0,none⟩) 2 2) (.inl rfl) (CW u) rfl fun u2 hL hK=>?_)
   have Bq:Below (ε u) u u2:=hK.below (Nat.le_refl _) (fun k o=>by cases o)
   exact ⟨hu.trans (Bq.mono hu.size),Bq,⟨_,rfl,DJ (rs:=[[ξ (a.1),δ a.2.1,δ a.2.2.1,δ a.2.2.2],[ξ (b.1),δ b.2.1,δ b.2.2.1,δ b.2.2.2]]) (by simp) (hL.sat.good _ (List.mem_singleton.2 rfl))⟩⟩
  ·refine ⟨fun _ _ _ _ _ h=>h,fun vals u hu hb=>?_⟩
   obtain ⟨h5,_⟩:=hb
   obtain ⟨z0,w0,s1⟩:=h5
   refine AN.knownE [(146,5,χ z0 2 2)] ⟨(List.cons.inj w0).1,trivial⟩ (AN.call (f:=131) [.tmp 146] (ats:=#[66]) rfl (CV _ _) ((LT (θ z0) [(a.1,a.2.1,a.2.2.1,a.2.2.2),(b.1,b.2.1,b.2.2.1,b.2.2.2)] 2 u s1 (by first | assumption | omega | (simp <;> omega))).mono fun en u2 hh=>?_))
   obtain ⟨rfl,bb⟩:=hh
   exact ⟨_,rfl,hu.trans (bb.mono hu.size),bb,rfl⟩
  ·refine ⟨fun _ _ _ _ _ h=>h,fun vals u hu hb=>?_⟩
   obtain ⟨h0,h6,_⟩:=hb
   refine AN.knownE [(141,0,ψ [ξ true,δ 0,δ 0,δ 0]),(147,6,δ (Az [(a.1,a.2.1,a.2.2.1,a.2.2.2),(b.1,b.2.1,b.2.2.1,b.2.2.2)]))] ⟨(List.cons.inj h0).1,(List.cons.inj h6).1,trivial⟩ (AN.call (f:=127) [.tmp 141,.tmp 147] (ats:=#[56,30]) rfl (CV _ _) ((DW true 0 0 0 (Az [(a.1,a.2.1,a.2.2.1,a.2.2.2),(b.1,b.2.1,b.2.2.1,b.2.2.2)]) u).mono fun en u2 hh=>?_))
   obtain ⟨rfl,bb⟩:=hh
   exact ⟨_,rfl,hu.trans (bb.mono hu.size),bb,rfl⟩
  ·refine ⟨fun _ _ _ _ _ h=>h,fun vals u hu hb=>?_⟩
   obtain ⟨h7,_⟩:=hb
   exact AN.knownE [(148,7,CB (Ab true 0 0 0 (Az [(a.1,a.2.1,a.2.2.1,a.2.2.2),(b.1,b.2.1,b.2.2.1,b.2.2.2)])))] ⟨(List.cons.inj h7).1,trivial⟩ (AN.reads ⟨0,[],(0,0),[]⟩ (fun e he=>by cases he) (ψ [ξ ((Ab true 0 0 0 (Az [(a.1,a.2.1,a.2.2.1,a.2.2.2),(b.1,b.2.1,b.2.2.1,b.2.2.2)])).1),δ ((Ab true 0 0 0 (Az [(a.1,a.2.1,a.2.2.1,a.2.2.2),(b.1,b.2.1,b.2.2.1,b.2.2.2)])).2.1),δ ((Ab true 0 0 0 (Az [(a.1,a.2.1,a.2.2.1,a.2.2.2),(b.1,b.2.1,b.2.2.1,b.2.2.2)])).2.2.1),δ ((Ab true 0 0 0 (Az [(a.1,a.2.1,a.2.2.1,a.2.2.2),(b.1,b.2.1,b.2.2.1,b.2.2.2)])).2.2.2.1)]) ⟨hu,.refl _,rfl⟩)
  ·refine ⟨fun _ _ _ _ _ h=>h,fun vals u hu hb=>?_⟩
   obtain ⟨h7,_⟩:=hb
   exact AN.knownE [(148,7,CB (Ab true 0 0 0 (Az [(a.1,a.2.1,a.2.2.1,a.2.2.2),(b.1,b.2.1,b.2.2.1,b.2.2.2)])))] ⟨(List.cons.inj h7).1,trivial⟩ (AN.reads ⟨0,[],(0,0),[]⟩ (fun e he=>by cases he) (δ ((Ab true 0 0 0 (Az [(a.1,a.2.1,a.2.2.1,a.2.2.2),(b.1,b.2.1,b.2.2.1,b.2.2.2)])).2.2.2.2)) ⟨hu,.refl _,rfl⟩)
  intro vals b7 u1 _ a0
  replace u1:Below (ε f1) f1 b7:=u1
  obtain ⟨x0,x1,x2,x3,x4,x5,x6,x7,x8,x9,_⟩:=a0
  have t9:=i1.below u1
  refine Bs [(4,ζ g4),(149,vals 8),(150,vals 9)] fun E98=>?_
  rw [show vals 8=ψ [ξ ((Ab true 0 0 0 (Az [(a.1,a.2.1,a.2.2.1,a.2.2.2),(b.1,b.2.1,b.2.2.1,b.2.2.2)])).1),δ ((Ab true 0 0 0 (Az [(a.1,a.2.1,a.2.2.1,a.2.2.2),(b.1,b.2.1,b.2.2.1,b.2.2.2)])).2.1),δ ((Ab true 0 0 0 (Az [(a.1,a.2.1,a.2.2.1,a.2.2.2),(b.1,b.2.1,b.2.2.1,b.2.2.2)])).2.2.1),δ ((Ab true 0 0 0 (Az [(a.1,a.2.1,a.2.2.1,a.2.2.2),(b.1,b.2.1,b.2.2.1,b.2.2.2)])).2.2.2.1)] from (List.cons.inj x8).1]
  rw [show vals 9=δ ((Ab true 0 0 0 (Az [(a.1,a.2.1,a.2.2.1,a.2.2.2),(b.1,b.2.1,b.2.2.1,b.2.2.2)])).2.2.2.2) from (List.cons.inj x9).1]
  refine GI (i:=10) t9 (PW.getD 10 default) (2,0) (undef) fun w99 r9=>?_
  refine GI (i:=11) r9 (PW.getD 11 default) (0,0) (δ ((Ab true 0 0 0 (Az [(a.1,a.2.1,a.2.2.1,a.2.2.2),(b.1,b.2.1,b.2.2.1,b.2.2.2)])).2.2.2.2)) fun w100 q9=>?_
  refine FN ⟨rfl,At.mid ?_⟩
  refine AB zr q9 [] fun w101 k3=>?_
  exact AK k3 (2,0) (CB (Ab true 0 0 0 (Az [(a.1,a.2.1,a.2.2.1,a.2.2.2),(b.1,b.2.1,b.2.2.1,b.2.2.2)]))) (o _ _ ⟨by unfold DM; rw [y,c5,c8,d,g,j,l,m,n,q,p,s,r,b0,e0,d0] <;> rfl,k3.B⟩)
 refine AB WQ l3 [] fun w102 i3=>?_
 refine AG (x.op == 13) (fun v=>?_) (fun v=>?_)
 ·refine As 41 WP i3 [] fun p0 g1=>?_
  refine ER Md 12 ?_
  refine D8 (md:=.any) (fuel:=2) (L:=[Bd 0 [] (ψ [ξ true,δ 0,δ 0,δ 0]),Bd 1 [] (ζ z),Bd 2 [1] (ψ [ξ (a.1),δ a.2.1,δ a.2.2.1,δ a.2.2.2]),Bd 3 [] (.pointer (some ⟨z,4,none⟩)),Bd 4 [3] (ψ [ξ (b.1),δ b.2.1,δ b.2.2.1,δ b.2.2.2]),⟨5,[2,4],[5],KT 2 4 [[ξ (a.1),δ a.2.1,δ a.2.2.1,δ a.2.2.2],[ξ (b.1),δ b.2.1,δ b.2.2.1,δ b.2.2.2]]⟩,Bd 6 [5] (δ (Az [(a.1,a.2.1,a.2.2.1,a.2.2.2),(b.1,b.2.1,b.2.2.1,b.2.2.2)])),Bd 7 [0,6] (CB (Ab true 0 0 0 (Az [(a.1,a.2.1,a.2.2.1,a.2.2.2),(b.1,b.2.1,b.2.2.1,b.2.2.2)]))),Bd 8 [7] (ψ [ξ ((Ab true 0 0 0 (Az [(a.1,a.2.1,a.2.2.1,a.2.2.2),(b.1,b.2.1,b.2.2.1,b.2.2.2)])).1),δ ((Ab true 0 0 0 (Az [(a.1,a.2.1,a.2.2.1,a.2.2.2),(b.1,b.2.1,b.2.2.1,b.2.2.2)])).2.1),δ ((Ab true 0 0 0 (Az [(a.1,a.2.1,a.2.2.1,a.2.2.2),(b.1,b.2.1,b.2.2.1,b.2.2.2)])).2.2.1),δ ((Ab true 0 0 0 (Az [(a.1,a.2.1,a.2.2.1,a.2.2.2),(b.1,b.2.1,b.2.2.1,b.2.2.2)])).2.2.2.1)]),Bd 9 [7] (δ ((Ab true 0 0 0 (Az [(a.1,a.2.1,a.2.2.1,a.2.2.2),(b.1,b.2.1,b.2.2.1,b.2.2.2)])).2.2.2.2))]) (W:=iE) (C:=fun u=>Below (ε p0) p0 u) (Ext:=Fx) (Below.refl _ _).drew Fx.refl (fun _ _ _=>Fx.trans) ⟨?_,?_,?_,?_,?_,?_,?_,?_,?_,?_,trivial⟩ rfl ?_
  ·refine ⟨fun _ _ _ _ _ h=>h,fun vals u hu hb=>?_⟩
   exact AN.knownE [] trivial (AN.reads ⟨0,_,(4,0),[]⟩ (CQ g1.G hu) (ψ [ξ true,δ 0,δ 0,δ 0]) ⟨hu,.refl _,rfl⟩)
  ·refine ⟨fun _ _ _ _ _ h=>h,fun vals u hu hb=>?_⟩
   exact AN.knownE [] trivial (AN.reads ⟨0,[],(0,0),[]⟩ (fun e he=>by cases he) (ζ z) ⟨hu,.refl _,rfl⟩)
  ·refine ⟨fun _ _ _ _ _ h=>h,fun vals u hu hb=>?_⟩
   obtain ⟨h1,_⟩:=hb
   exact AN.knownE [(142,1,ζ z)] ⟨(List.cons.inj h1).1,trivial⟩ (AN.reads ⟨0,_,(3,0),[]⟩ (CQ g1.G hu) (ψ [ξ (a.1),δ a.2.1,δ a.2.2.1,δ a.2.2.2]) ⟨hu,.refl _,rfl⟩)
  ·refine ⟨fun _ _ _ _ _ h=>h,fun vals u hu hb=>?_⟩
   exact AN.knownE [] trivial (AN.reads ⟨0,[],(0,0),[]⟩ (fun e he=>by cases he) (.pointer (some ⟨z,4,none⟩)) ⟨hu,.refl _,rfl⟩)
  ·refine ⟨fun _ _ _ _ _ h=>h,fun vals u hu hb=>?_⟩
   obtain ⟨h3,_⟩:=hb
   exact AN.knownE [(144,3,.pointer (some ⟨z,4,none⟩))] ⟨(List.cons.inj h3).1,trivial⟩ (AN.reads ⟨0,_,(3,4),[]⟩ (CQ g1.G hu) (ψ [ξ (b.1),δ b.2.1,δ b.2.2.1,δ b.2.2.2]) ⟨hu,.refl _,rfl⟩)
  ·refine ⟨fun _ _ _ _ he h=>h.keep he,fun vals u hu hb=>?_⟩
   obtain ⟨h2,h4,_⟩:=hb
   refine AN.knownE [(143,2,ψ [ξ (a.1),δ a.2.1,δ a.2.2.1,δ a.2.2.2]),(145,4,ψ [ξ (b.1),δ b.2.1,δ b.2.2.1,δ b.2.2.2])] ⟨(List.cons.inj h2).1,(List.cons.inj h4).1,trivial⟩ (AN.runsK ⟨ε u,[],(0,0),[]⟩ ⟨ε u + 1,[ι (ε u) [ξ (a.1),δ a.2.1,δ a.2.2.1,δ a.2.2.2,ξ (b.1),δ b.2.1,δ b.2.2.1,δ b.2.2.2] 56],(0,0),[]⟩ (.value (τ (some ⟨ε u,0,none⟩) 2 2)) (τ (some ⟨ε u,0,none⟩) 2 2) (.inl rfl) (CW u) rfl fun u2 hL hK=>?_)
   have Bq:Below (ε u) u u2:=hK.below (Nat.le_refl _) (fun k o=>by cases o)
   exact ⟨hu.trans (Bq.mono hu.size),Bq,⟨_,rfl,DJ (rs:=[[ξ (a.1),δ a.2.1,δ a.2.2.1,δ a.2.2.2],[ξ (b.1),δ b.2.1,δ b.2.2.1,δ b.2.2.2]]) (by simp) (hL.sat.good _ (List.mem_singleton.2 rfl))⟩⟩
  ·refine ⟨fun _ _ _ _ _ h=>h,fun vals u hu hb=>?_⟩
   obtain ⟨h5,_⟩:=hb
   obtain ⟨z0,w0,s1⟩:=h5
   refine AN.knownE [(146,5,χ z0 2 2)] ⟨(List.cons.inj w0).1,trivial⟩ (AN.call (f:=131) [.tmp 146] (ats:=#[66]) rfl (CV _ _) ((LT (θ z0) [(a.1,a.2.1,a.2.2.1,a.2.2.2),(b.1,b.2.1,b.2.2.1,b.2.2.2)] 2 u s1 (by first | assumption | omega | (simp <;> omega))).mono fun en u2 hh=>?_))
   obtain ⟨rfl,bb⟩:=hh
   exact ⟨_,rfl,hu.trans (bb.mono hu.size),bb,rfl⟩
  ·refine ⟨fun _ _ _ _ _ h=>h,fun vals u hu hb=>?_⟩
   obtain ⟨h0,h6,_⟩:=hb
   refine AN.knownE [(141,0,ψ [ξ true,δ 0,δ 0,δ 0]),(147,6,δ (Az [(a.1,a.2.1,a.2.2.1,a.2.2.2),(b.1,b.2.1,b.2.2.1,b.2.2.2)]))] ⟨(List.cons.inj h0).1,(List.cons.inj h6).1,trivial⟩ (AN.call (f:=127) [.tmp 141,.tmp 147] (ats:=#[56,30]) rfl (CV _ _) ((DW true 0 0 0 (Az [(a.1,a.2.1,a.2.2.1,a.2.2.2),(b.1,b.2.1,b.2.2.1,b.2.2.2)]) u).mono fun en u2 hh=>?_))
   obtain ⟨rfl,bb⟩:=hh
   exact ⟨_,rfl,hu.trans (bb.mono hu.size),bb,rfl⟩
  ·refine ⟨fun _ _ _ _ _ h=>h,fun vals u hu hb=>?_⟩
   obtain ⟨h7,_⟩:=hb
   exact AN.knownE [(148,7,CB (Ab true 0 0 0 (Az [(a.1,a.2.1,a.2.2.1,a.2.2.2),(b.1,b.2.1,b.2.2.1,b.2.2.2)])))] ⟨(List.cons.inj h7).1,trivial⟩ (AN.reads ⟨0,[],(0,0),[]⟩ (fun e he=>by cases he) (ψ [ξ ((Ab true 0 0 0 (Az [(a.1,a.2.1,a.2.2.1,a.2.2.2),(b.1,b.2.1,b.2.2.1,b.2.2.2)])).1),δ ((Ab true 0 0 0 (Az [(a.1,a.2.1,a.2.2.1,a.2.2.2),(b.1,b.2.1,b.2.2.1,b.2.2.2)])).2.1),δ ((Ab true 0 0 0 (Az [(a.1,a.2.1,a.2.2.1,a.2.2.2),(b.1,b.2.1,b.2.2.1,b.2.2.2)])).2.2.1),δ ((Ab true 0 0 0 (Az [(a.1,a.2.1,a.2.2.1,a.2.2.2),(b.1,b.2.1,b.2.2.1,b.2.2.2)])).2.2.2.1)]) ⟨hu,.refl _,rfl⟩)
  ·refine ⟨fun _ _ _ _ _ h=>h,fun vals u hu hb=>?_⟩
   obtain ⟨h7,_⟩:=hb
   exact AN.knownE [(148,7,CB (Ab true 0 0 0 (Az [(a.1,a.2.1,a.2.2.1,a.2.2.2),(b.1,b.2.1,b.2.2.1,b.2.2.2)])))] ⟨(List.cons.inj h7).1,trivial⟩ (AN.reads ⟨0,[],(0,0),[]⟩ (fun e he=>by cases he) (δ ((Ab true 0 0 0 (Az [(a.1,a.2.1,a.2.2.1,a.2.2.2),(b.1,b.2.1,b.2.2.1,b.2.2.2)])).2.2.2.2)) ⟨hu,.refl _,rfl⟩)
  intro vals n2 e1 _ a0
  replace e1:Below (ε p0) p0 n2:=e1
  obtain ⟨x0,x1,x2,x3,x4,x5,x6,x7,x8,x9,_⟩:=a0
  have n9:=g1.below e1
  refine Bs [(4,ζ g4),(149,vals 8),(150,vals 9)] fun E105=>?_
  rw [show vals 8=ψ [ξ ((Ab true 0 0 0 (Az [(a.1,a.2.1,a.2.2.1,a.2.2.2),(b.1,b.2.1,b.2.2.1,b.2.2.2)])).1),δ ((Ab true 0 0 0 (Az [(a.1,a.2.1,a.2.2.1,a.2.2.2),(b.1,b.2.1,b.2.2.1,b.2.2.2)])).2.1),δ ((Ab true 0 0 0 (Az [(a.1,a.2.1,a.2.2.1,a.2.2.2),(b.1,b.2.1,b.2.2.1,b.2.2.2)])).2.2.1),δ ((Ab true 0 0 0 (Az [(a.1,a.2.1,a.2.2.1,a.2.2.2),(b.1,b.2.1,b.2.2.1,b.2.2.2)])).2.2.2.1)] from (List.cons.inj x8).1]
  rw [show vals 9=δ ((Ab true 0 0 0 (Az [(a.1,a.2.1,a.2.2.1,a.2.2.2),(b.1,b.2.1,b.2.2.1,b.2.2.2)])).2.2.2.2) from (List.cons.inj x9).1]
  refine GI (i:=10) n9 (Md.getD 10 default) (2,0) (undef) fun w106 k9=>?_
  refine GI (i:=11) k9 (Md.getD 11 default) (0,0) (δ ((Ab true 0 0 0 (Az [(a.1,a.2.1,a.2.2.1,a.2.2.2),(b.1,b.2.1,b.2.2.1,b.2.2.2)])).2.2.2.2)) fun w107 h9=>?_
  refine FN ⟨rfl,At.mid ?_⟩
  refine AB zq h9 [] fun w108 f3=>?_
  exact AK f3 (2,0) (CB (Ab true 0 0 0 (Az [(a.1,a.2.1,a.2.2.1,a.2.2.2),(b.1,b.2.1,b.2.2.1,b.2.2.2)]))) (o _ _ ⟨by unfold DM; rw [y,c5,c8,d,g,j,l,m,n,q,p,s,r,b0,e0,d0,v] <;> rfl,f3.B⟩)
 refine AB WO i3 [] fun w109 e3=>?_
 refine AG (x.op == 17) (fun c0=>?_) (fun c0=>?_)
 ·refine As 43 WN e3 [] fun m0 z1=>?_
  refine ER PV 10 ?_
  refine D8 (md:=.any) (fuel:=2) (L:=[Bd 0 [] (ψ [ξ true,δ 0,δ 0,δ 0]),Bd 1 [] (ζ z),Bd 2 [1] (ψ [ξ (a.1),δ a.2.1,δ a.2.2.1,δ a.2.2.2]),⟨3,[2],[3],KT 1 4 [[ξ (a.1),δ a.2.1,δ a.2.2.1,δ a.2.2.2]]⟩,Bd 4 [3] (δ (Az [(a.1,a.2.1,a.2.2.1,a.2.2.2)])),Bd 5 [0,4] (CB (Ab true 0 0 0 (Az [(a.1,a.2.1,a.2.2.1,a.2.2.2)]))),Bd 6 [5] (ψ [ξ ((Ab true 0 0 0 (Az [(a.1,a.2.1,a.2.2.1,a.2.2.2)])).1),δ ((Ab true 0 0 0 (Az [(a.1,a.2.1,a.2.2.1,a.2.2.2)])).2.1),δ ((Ab true 0 0 0 (Az [(a.1,a.2.1,a.2.2.1,a.2.2.2)])).2.2.1),δ ((Ab true 0 0 0 (Az [(a.1,a.2.1,a.2.2.1,a.2.2.2)])).2.2.2.1)]),Bd 7 [5] (δ ((Ab true 0 0 0 (Az [(a.1,a.2.1,a.2.2.1,a.2.2.2)])).2.2.2.2))]) (W:=vg) (C:=fun u=>Below (ε m0) m0 u) (Ext:=Fx) (Below.refl _ _).drew Fx.refl (fun _ _ _=>Fx.trans) ⟨?_,?_,?_,?_,?_,?_,?_,?_,trivial⟩ rfl ?_
  ·refine ⟨fun _ _ _ _ _ h=>h,fun vals u hu hb=>?_⟩
   exact AN.knownE [] trivial (AN.reads ⟨0,_,(4,0),[]⟩ (CQ z1.G hu) (ψ [ξ true,δ 0,δ 0,δ 0]) ⟨hu,.refl _,rfl⟩)
  ·refine ⟨fun _ _ _ _ _ h=>h,fun vals u hu hb=>?_⟩
   exact AN.knownE [] trivial (AN.reads ⟨0,[],(0,0),[]⟩ (fun e he=>by cases he) (ζ z) ⟨hu,.refl _,rfl⟩)
  ·refine ⟨fun _ _ _ _ _ h=>h,fun vals u hu hb=>?_⟩
   obtain ⟨h1,_⟩:=hb
   exact AN.knownE [(154,1,ζ z)] ⟨(List.cons.inj h1).1,trivial⟩ (AN.reads ⟨0,_,(3,0),[]⟩ (CQ z1.G hu) (ψ [ξ (a.1),δ a.2.1,δ a.2.2.1,δ a.2.2.2]) ⟨hu,.refl _,rfl⟩)
  ·refine ⟨fun _ _ _ _ he h=>h.keep he,fun vals u hu hb=>?_⟩
   obtain ⟨h2,_⟩:=hb
   refine AN.knownE [(155,2,ψ [ξ (a.1),δ a.2.1,δ a.2.2.1,δ a.2.2.2])] ⟨(List.cons.inj h2).1,trivial⟩ (AN.runsK ⟨ε u,[],(0,0),[]⟩ ⟨ε u + 1,[ι (ε u) [ξ (a.1),δ a.2.1,δ a.2.2.1,δ a.2.2.2] 56],(0,0),[]⟩ (.value (τ (some ⟨ε u,0,none⟩) 1 1)) (τ (some ⟨ε u,0,none⟩) 1 1) (.inl rfl) (CW u) rfl fun u2 hL hK=>?_)
   have Bq:Below (ε u) u u2:=hK.below (Nat.le_refl _) (fun k o=>by cases o)
   exact ⟨hu.trans (Bq.mono hu.size),Bq,⟨_,rfl,DJ (rs:=[[ξ (a.1),δ a.2.1,δ a.2.2.1,δ a.2.2.2]]) (by simp) (hL.sat.good _ (List.mem_singleton.2 rfl))⟩⟩
  ·refine ⟨fun _ _ _ _ _ h=>h,fun vals u hu hb=>?_⟩
   obtain ⟨h3,_⟩:=hb
   obtain ⟨t2,p2,h8⟩:=h3
   refine AN.knownE [(156,3,χ t2 1 1)] ⟨(List.cons.inj p2).1,trivial⟩ (AN.call (f:=131) [.tmp 156] (ats:=#[66]) rfl (CV _ _) ((LT (θ t2) [(a.1,a.2.1,a.2.2.1,a.2.2.2)] 1 u h8 (by first | assumption | omega | (simp <;> omega))).mono fun en u2 hh=>?_))
   obtain ⟨rfl,bb⟩:=hh
   exact ⟨_,rfl,hu.trans (bb.mono hu.size),bb,rfl⟩
  ·refine ⟨fun _ _ _ _ _ h=>h,fun vals u hu hb=>?_⟩
   obtain ⟨h0,h4,_⟩:=hb
   refine AN.knownE [(153,0,ψ [ξ true,δ 0,δ 0,δ 0]),(157,4,δ (Az [(a.1,a.2.1,a.2.2.1,a.2.2.2)]))] ⟨(List.cons.inj h0).1,(List.cons.inj h4).1,trivial⟩ (AN.call (f:=127) [.tmp 153,.tmp 157] (ats:=#[56,30]) rfl (CV _ _) ((DW true 0 0 0 (Az [(a.1,a.2.1,a.2.2.1,a.2.2.2)]) u).mono fun en u2 hh=>?_))
   obtain ⟨rfl,bb⟩:=hh
   exact ⟨_,rfl,hu.trans (bb.mono hu.size),bb,rfl⟩
  ·refine ⟨fun _ _ _ _ _ h=>h,fun vals u hu hb=>?_⟩
   obtain ⟨h5,_⟩:=hb
   exact AN.knownE [(158,5,CB (Ab true 0 0 0 (Az [(a.1,a.2.1,a.2.2.1,a.2.2.2)])))] ⟨(List.cons.inj h5).1,trivial⟩ (AN.reads ⟨0,[],(0,0),[]⟩ (fun e he=>by cases he) (ψ [ξ ((Ab true 0 0 0 (Az [(a.1,a.2.1,a.2.2.1,a.2.2.2)])).1),δ ((Ab true 0 0 0 (Az [(a.1,a.2.1,a.2.2.1,a.2.2.2)])).2.1),δ ((Ab true 0 0 0 (Az [(a.1,a.2.1,a.2.2.1,a.2.2.2)])).2.2.1),δ ((Ab true 0 0 0 (Az [(a.1,a.2.1,a.2.2.1,a.2.2.2)])).2.2.2.1)]) ⟨hu,.refl _,rfl⟩)
  ·refine ⟨fun _ _ _ _ _ h=>h,fun vals u hu hb=>?_⟩
   obtain ⟨h5,_⟩:=hb
   exact AN.knownE [(158,5,CB (Ab true 0 0 0 (Az [(a.1,a.2.1,a.2.2.1,a.2.2.2)])))] ⟨(List.cons.inj h5).1,trivial⟩ (AN.reads ⟨0,[],(0,0),[]⟩ (fun e he=>by cases he) (δ ((Ab true 0 0 0 (Az [(a.1,a.2.1,a.2.2.1,a.2.2.2)])).2.2.2.2)) ⟨hu,.refl _,rfl⟩)
  intro vals m2 d1 _ a0
  replace d1:Below (ε m0) m0 m2:=d1
  obtain ⟨x0,x1,x2,x3,x4,x5,x6,x7,_⟩:=a0
  have g9:=z1.below d1
  refine Bs [(4,ζ g4),(159,vals 6),(160,vals 7)] fun E112=>?_
  rw [show vals 6=ψ [ξ ((Ab true 0 0 0 (Az [(a.1,a.2.1,a.2.2.1,a.2.2.2)])).1),δ ((Ab true 0 0 0 (Az [(a.1,a.2.1,a.2.2.1,a.2.2.2)])).2.1),δ ((Ab true 0 0 0 (Az [(a.1,a.2.1,a.2.2.1,a.2.2.2)])).2.2.1),δ ((Ab true 0 0 0 (Az [(a.1,a.2.1,a.2.2.1,a.2.2.2)])).2.2.2.1)] from (List.cons.inj x6).1]
  rw [show vals 7=δ ((Ab true 0 0 0 (Az [(a.1,a.2.1,a.2.2.1,a.2.2.2)])).2.2.2.2) from (List.cons.inj x7).1]
  refine GI (i:=8) g9 (PV.getD 8 default) (2,0) (undef) fun w113 f9=>?_
  refine GI (i:=9) f9 (PV.getD 9 default) (0,0) (δ ((Ab true 0 0 0 (Az [(a.1,a.2.1,a.2.2.1,a.2.2.2)])).2.2.2.2)) fun w114 c9=>?_
  refine FN ⟨rfl,At.mid ?_⟩
  refine AB zp c9 [] fun w115 c3=>?_
  exact AK c3 (2,0) (CB (Ab true 0 0 0 (Az [(a.1,a.2.1,a.2.2.1,a.2.2.2)]))) (o _ _ ⟨by unfold DM; rw [y,c5,c8,d,g,j,l,m,n,q,p,s,r,b0,e0,d0,v,c0] <;> rfl,c3.B⟩)
 refine AB WM e3 [] fun w116 b3=>?_
 refine AG (x.op == 16) (fun g0=>?_) (fun g0=>?_)
 ·refine As 45 WL b3 [] fun l0 v1=>?_
  refine ER PU 11 ?_
  refine D8 (md:=.any) (fuel:=2) (L:=[Bd 0 [] (ζ z),Bd 1 [0] (ψ [ξ (a.1),δ a.2.1,δ a.2.2.1,δ a.2.2.2]),Bd 2 [] (ζ z),Bd 3 [2] (ψ [ξ (a.1),δ a.2.1,δ a.2.2.1,δ a.2.2.2]),⟨4,[3],[4],KT 1 4 [[ξ (a.1),δ a.2.1,δ a.2.2.1,δ a.2.2.2]]⟩,Bd 5 [4] (δ (CS [(a.1,a.2.1,a.2.2.1,a.2.2.2)])),Bd 6 [1,5] (CB (Ab a.1 a.2.1 a.2.2.1 a.2.2.2 (CS [(a.1,a.2.1,a.2.2.1,a.2.2.2)]))),Bd 7 [6] (ψ [ξ ((Ab a.1 a.2.1 a.2.2.1 a.2.2.2 (CS [(a.1,a.2.1,a.2.2.1,a.2.2.2)])).1),δ ((Ab a.1 a.2.1 a.2.2.1 a.2.2.2 (CS [(a.1,a.2.1,a.2.2.1,a.2.2.2)])).2.1),δ ((Ab a.1 a.2.1 a.2.2.1 a.2.2.2 (CS [(a.1,a.2.1,a.2.2.1,a.2.2.2)])).2.2.1),δ ((Ab a.1 a.2.1 a.2.2.1 a.2.2.2 (CS [(a.1,a.2.1,a.2.2.1,a.2.2.2)])).2.2.2.1)]),Bd 8 [6] (δ ((Ab a.1 a.2.1 a.2.2.1 a.2.2.2 (CS [(a.1,a.2.1,a.2.2.1,a.2.2.2)])).2.2.2.2))]) (W:=ve) (C:=fun u=>Below (ε l0) l0 u) (Ext:=Fx) (Below.refl _ _).drew Fx.refl (fun _ _ _=>Fx.trans) ⟨?_,?_,?_,?_,?_,?_,?_,?_,?_,trivial⟩ rfl ?_
  ·refine ⟨fun _ _ _ _ _ h=>h,fun vals u hu hb=>?_⟩
   exact AN.knownE [] trivial (AN.reads ⟨0,[],(0,0),[]⟩ (fun e he=>by cases he) (ζ z) ⟨hu,.refl _,rfl⟩)
  ·refine ⟨fun _ _ _ _ _ h=>h,fun vals u hu hb=>?_⟩
   obtain ⟨h0,_⟩:=hb
   exact AN.knownE [(163,0,ζ z)] ⟨(List.cons.inj h0).1,trivial⟩ (AN.reads ⟨0,_,(3,0),[]⟩ (CQ v1.G hu) (ψ [ξ (a.1),δ a.2.1,δ a.2.2.1,δ a.2.2.2]) ⟨hu,.refl _,rfl⟩)
  ·refine ⟨fun _ _ _ _ _ h=>h,fun vals u hu hb=>?_⟩
   exact AN.knownE [] trivial (AN.reads ⟨0,[],(0,0),[]⟩ (fun e he=>by cases he) (ζ z) ⟨hu,.refl _,rfl⟩)
  ·refine ⟨fun _ _ _ _ _ h=>h,fun vals u hu hb=>?_⟩
   obtain ⟨h2,_⟩:=hb
   exact AN.knownE [(165,2,ζ z)] ⟨(List.cons.inj h2).1,trivial⟩ (AN.reads ⟨0,_,(3,0),[]⟩ (CQ v1.G hu) (ψ [ξ (a.1),δ a.2.1,δ a.2.2.1,δ a.2.2.2]) ⟨hu,.refl _,rfl⟩)
  ·refine ⟨fun _ _ _ _ he h=>h.keep he,fun vals u hu hb=>?_⟩
   obtain ⟨h3,_⟩:=hb
   refine AN.knownE [(166,3,ψ [ξ (a.1),δ a.2.1,δ a.2.2.1,δ a.2.2.2])] ⟨(List.cons.inj h3).1,trivial⟩ (AN.runsK ⟨ε u,[],(0,0),[]⟩ ⟨ε u + 1,[ι (ε u) [ξ (a.1),δ a.2.1,δ a.2.2.1,δ a.2.2.2] 56],(0,0),[]⟩ (.value (τ (some ⟨ε u,0,none⟩) 1 1)) (τ (some ⟨ε u,0,none⟩) 1 1) (.inl rfl) (CW u) rfl fun u2 hL hK=>?_)
   have Bq:Below (ε u) u u2:=hK.below (Nat.le_refl _) (fun k o=>by cases o)
   exact ⟨hu.trans (Bq.mono hu.size),Bq,⟨_,rfl,DJ (rs:=[[ξ (a.1),δ a.2.1,δ a.2.2.1,δ a.2.2.2]]) (by simp) (hL.sat.good _ (List.mem_singleton.2 rfl))⟩⟩
  ·refine ⟨fun _ _ _ _ _ h=>h,fun vals u hu hb=>?_⟩
   obtain ⟨h4,_⟩:=hb
   obtain ⟨s2,o2,f8⟩:=h4
   refine AN.knownE [(167,4,χ s2 1 1)] ⟨(List.cons.inj o2).1,trivial⟩ (AN.call (f:=132) [.tmp 167] (ats:=#[66]) rfl (CV _ _) ((Oy (θ s2) [(a.1,a.2.1,a.2.2.1,a.2.2.2)] 1 u f8 (by first | assumption | omega | (simp <;> omega))).mono fun en u2 hh=>?_))
   obtain ⟨rfl,bb⟩:=hh
   exact ⟨_,rfl,hu.trans (bb.mono hu.size),bb,rfl⟩
  ·refine ⟨fun _ _ _ _ _ h=>h,fun vals u hu hb=>?_⟩
   obtain ⟨h1,h5,_⟩:=hb
   refine AN.knownE [(164,1,ψ [ξ (a.1),δ a.2.1,δ a.2.2.1,δ a.2.2.2]),(168,5,δ (CS [(a.1,a.2.1,a.2.2.1,a.2.2.2)]))] ⟨(List.cons.inj h1).1,(List.cons.inj h5).1,trivial⟩ (AN.call (f:=127) [.tmp 164,.tmp 168] (ats:=#[56,30]) rfl (CV _ _) ((DW a.1 a.2.1 a.2.2.1 a.2.2.2 (CS [(a.1,a.2.1,a.2.2.1,a.2.2.2)]) u).mono fun en u2 hh=>?_))
   obtain ⟨rfl,bb⟩:=hh
   exact ⟨_,rfl,hu.trans (bb.mono hu.size),bb,rfl⟩
  ·refine ⟨fun _ _ _ _ _ h=>h,fun vals u hu hb=>?_⟩
   obtain ⟨h6,_⟩:=hb
   exact AN.knownE [(169,6,CB (Ab a.1 a.2.1 a.2.2.1 a.2.2.2 (CS [(a.1,a.2.1,a.2.2.1,a.2.2.2)])))] ⟨(List.cons.inj h6).1,trivial⟩ (AN.reads ⟨0,[],(0,0),[]⟩ (fun e he=>by cases he) (ψ [ξ ((Ab a.1 a.2.1 a.2.2.1 a.2.2.2 (CS [(a.1,a.2.1,a.2.2.1,a.2.2.2)])).1),δ ((Ab a.1 a.2.1 a.2.2.1 a.2.2.2 (CS [(a.1,a.2.1,a.2.2.1,a.2.2.2)])).2.1),δ ((Ab a.1 a.2.1 a.2.2.1 a.2.2.2 (CS [(a.1,a.2.1,a.2.2.1,a.2.2.2)])).2.2.1),δ ((Ab a.1 a.2.1 a.2.2.1 a.2.2.2 (CS [(a.1,a.2.1,a.2.2.1,a.2.2.2)])).2.2.2.1)]) ⟨hu,.refl _,rfl⟩)
  ·refine ⟨fun _ _ _ _ _ h=>h,fun vals u hu hb=>?_⟩
   obtain ⟨h6,_⟩:=hb
   exact AN.knownE [(169,6,CB (Ab a.1 a.2.1 a.2.2.1 a.2.2.2 (CS [(a.1,a.2.1,a.2.2.1,a.2.2.2)])))] ⟨(List.cons.inj h6).1,trivial⟩ (AN.reads ⟨0,[],(0,0),[]⟩ (fun e he=>by cases he) (δ ((Ab a.1 a.2.1 a.2.2.1 a.2.2.2 (CS [(a.1,a.2.1,a.2.2.1,a.2.2.2)])).2.2.2.2)) ⟨hu,.refl _,rfl⟩)
  intro vals l2 c1 _ a0
  replace c1:Below (ε l0) l0 l2:=c1
  obtain ⟨x0,x1,x2,x3,x4,x5,x6,x7,x8,_⟩:=a0
  have b9:=v1.below c1
  refine Bs [(4,ζ g4),(170,vals 7),(171,vals 8)] fun E119=>?_
  rw [show vals 7=ψ [ξ ((Ab a.1 a.2.1 a.2.2.1 a.2.2.2 (CS [(a.1,a.2.1,a.2.2.1,a.2.2.2)])).1),δ ((Ab a.1 a.2.1 a.2.2.1 a.2.2.2 (CS [(a.1,a.2.1,a.2.2.1,a.2.2.2)])).2.1),δ ((Ab a.1 a.2.1 a.2.2.1 a.2.2.2 (CS [(a.1,a.2.1,a.2.2.1,a.2.2.2)])).2.2.1),δ ((Ab a.1 a.2.1 a.2.2.1 a.2.2.2 (CS [(a.1,a.2.1,a.2.2.1,a.2.2.2)])).2.2.2.1)] from (List.cons.inj x7).1]
  rw [show vals 8=δ ((Ab a.1 a.2.1 a.2.2.1 a.2.2.2 (CS [(a.1,a.2.1,a.2.2.1,a.2.2.2)])).2.2.2.2) from (List.cons.inj x8).1]
  refine GI (i:=9) b9 (PU.getD 9 default) (2,0) (undef) fun w120 a9=>?_
  refine GI (i:=10) a9 (PU.getD 10 default) (0,0) (δ ((Ab a.1 a.2.1 a.2.2.1 a.2.2.2 (CS [(a.1,a.2.1,a.2.2.1,a.2.2.2)])).2.2.2.2)) fun w121 w8=>?_
  refine FN ⟨rfl,At.mid ?_⟩
  refine AB zo w8 [] fun w122 a3=>?_
  exact AK a3 (2,0) (CB (Ab a.1 a.2.1 a.2.2.1 a.2.2.2 (CS [(a.1,a.2.1,a.2.2.1,a.2.2.2)]))) (o _ _ ⟨by unfold DM; rw [y,c5,c8,d,g,j,l,m,n,q,p,s,r,b0,e0,d0,v,c0,g0] <;> rfl,a3.B⟩)
 refine AB WK b3 [] fun i2 z2=>?_
 refine AG (x.op == 18) (fun j0=>?_) (fun j0=>?_)
 ·refine Am lL z2 [(3,0)] fun e2 w2=>?_
  refine AP w2 (LT (some ⟨ε i2,0,none⟩) [(a.1,a.2.1,a.2.2.1,a.2.2.2)] 1 e2 (DJ (t:=56) (rs:=[[ξ (a.1),δ a.2.1,δ a.2.2.1,δ a.2.2.2]]) (by simp) (w2.ent 5 (by kernel_rfl))) (by first | assumption | omega | (simp <;> omega))) fun w126 v8=>?_
  refine AB WJ v8 [] fun w127 v2=>?_
  refine AG (Az [(a.1,a.2.1,a.2.2.1,a.2.2.2)] == 0) (fun b1=>?_) (fun b1=>?_)
  ·refine AB lK v2 [(3,4),(3,8)] fun d2 a7=>?_
   refine AP a7 (TD b.1 b.2.1 b.2.2.1 b.2.2.2 k2.1 k2.2.1 k2.2.2.1 k2.2.2.2 d2) fun wz v6=>?_
   refine AB lJ v6 [(3,4)] fun b2 t6=>?_
   refine AP t6 (DW b.1 b.2.1 b.2.2.1 b.2.2.2 (Gb b.1 b.2.1 b.2.2.1 b.2.2.2 k2.1 k2.2.1 k2.2.2.1 k2.2.2.2) b2) fun wy q6=>?_
   refine Am zn q6 [(2,0)] fun wx r1=>?_
   exact AK r1 (2,0) (CB (Ab b.1 b.2.1 b.2.2.1 b.2.2.2 (Gb b.1 b.2.1 b.2.2.1 b.2.2.2 k2.1 k2.2.1 k2.2.2.1 k2.2.2.2))) (o _ _ ⟨by unfold DM; rw [y,c5,c8,d,g,j,l,m,n,q,p,s,r,b0,e0,d0,v,c0,g0,j0,b1] <;> rfl,r1.B⟩)
  refine AB lI v2 [(3,4)] fun a2 m6=>?_
  refine AP m6 (DW b.1 b.2.1 b.2.2.1 b.2.2.2 (Az [(a.1,a.2.1,a.2.2.1,a.2.2.2)]) a2) fun ws k6=>?_
  refine Am zm k6 [(2,0)] fun wr q1=>?_
  exact AK q1 (2,0) (CB (Ab b.1 b.2.1 b.2.2.1 b.2.2.2 (Az [(a.1,a.2.1,a.2.2.1,a.2.2.2)]))) (o _ _ ⟨by unfold DM; rw [y,c5,c8,d,g,j,l,m,n,q,p,s,r,b0,e0,d0,v,c0,g0,j0,b1] <;> rfl,q1.B⟩)
 refine AB WI z2 [] fun wq p1=>?_
 refine AG (x.op == 19) (fun a1=>?_) (fun a1=>?_)
 ·refine As 52 lH p1 [] fun wp o1=>?_
  refine GD o1 [0,1,2,3,4,5,6,7,8,9] [(1,3,0),(3,3,0),(5,1,3)] [⟨6,[(196,ψ [ξ (a.1),δ a.2.1,δ a.2.2.1,δ a.2.2.2]),(198,ψ [δ x.mu,δ x.hu,δ x.du])],δ (Da a.1 a.2.1 a.2.2.1 a.2.2.2 x.mu x.hu x.du),true⟩,⟨7,[(194,ψ [ξ (a.1),δ a.2.1,δ a.2.2.1,δ a.2.2.2]),(199,δ (Da a.1 a.2.1 a.2.2.1 a.2.2.2 x.mu x.hu x.du))],CB (Ab a.1 a.2.1 a.2.2.1 a.2.2.2 (Da a.1 a.2.1 a.2.2.1 a.2.2.2 x.mu x.hu x.du)),true⟩] [(10,2,0),(11,0,0)] o1.G (fun sp c=>?_) fun wa wl c6=>?_
  ·simp only [List.mem_cons,List.not_mem_nil,or_false] at c
   rcases c with rfl | rfl
   ·exact AY 126 [.tmp 196,.tmp 198] _ (fun _=>by kernel_rfl) fun hc u hu=>AQ hu (Kg a.1 a.2.1 a.2.2.1 a.2.2.2 x.mu x.hu x.du u)
   exact AY 127 [.tmp 194,.tmp 199] _ (fun _=>by kernel_rfl) fun hc u hu=>AQ hu (DW a.1 a.2.1 a.2.2.1 a.2.2.2 (Da a.1 a.2.1 a.2.2.1 a.2.2.2 x.mu x.hu x.du) u)
  refine AB zl c6 [] fun wf n1=>?_
  exact AK n1 (2,0) (CB (Ab a.1 a.2.1 a.2.2.1 a.2.2.2 (Da a.1 a.2.1 a.2.2.1 a.2.2.2 x.mu x.hu x.du))) (o _ _ ⟨by unfold DM; rw [y,c5,c8,d,g,j,l,m,n,q,p,s,r,b0,e0,d0,v,c0,g0,j0,a1] <;> rfl,n1.B⟩)
 refine AB zk p1 [(2,0)] fun wb m1=>?_
 exact AK m1 (2,0) (.tuple #[ψ [ξ false,δ 0,δ 0,δ 0],δ 1]) (o _ _ ⟨by unfold DM; rw [y,c5,c8,d,g,j,l,m,n,q,p,s,r,b0,e0,d0,v,c0,g0,j0,a1] <;> rfl,m1.B⟩)
def UX (ns:List (Df)) (ss:List (Df)) (ps:List (Df)) (x:Ex):Bool×Int×Int×Int×Int:=DM ns ss ps x (false,0,0,0) (false,0,0,0) (false,0,0,0)
def vn (r:Bool×Int×Int×Int×Int):Value:=.tuple #[ψ [ξ (r.1),δ (r.2.1),δ (r.2.2.1),δ (r.2.2.2.1)],δ (r.2.2.2.2)]
noncomputable def SQ:Code:=Tryz.f112.body.getD .skip
def AD6:List Item:=(Cm (Ln 10) 400 [false] ([.code SQ])).2
theorem UW (f:Option Addr) (ns:List (Df)) (k:Nat) (d:Option Addr) (ss:List (Df)) (j:Nat) (b:Option Addr) (p:List (Df)) (i:Nat) (x:Ex) (a:Option Addr) (g:Nat) (w:World) (s:rowsDf w f ns) (o:ns.length≤4294967296) (q:rowsDf w d ss) (l:ss.length≤4294967296) (r:rowsDf w b p) (m:p.length≤4294967296) (u:rowsEx w a []) (v:x.ks.length=0):Calls Tryz.prog 112 ([ψ [τ f ns.length k,τ d ss.length j,τ b p.length i],ψ [δ x.op,δ x.num,δ x.den,δ x.mu,δ x.hu,δ x.du,η (x.nm),δ x.cnt,δ x.md,τ a 0 g]]:List Value).toArray w fun e w'=>e=.returned (vn (UX ns ss p x))∧Below (ε w) w w':=by
 refine AS (fn:=Tryz.f112) (c:=SQ) (n:=204) ?_
 have K1:=Wk.start w
 refine CZ (Cm (Ln 10) 400 [false] ([.code SQ])).1 [(4,2),(15,1)] AD6 K1 fun t z=>?_
 have y:Wk w t [ι (ε w) [τ f ns.length k,τ d ss.length j,τ b p.length i] 178,ι (ε w + 1) [δ x.op,δ x.num,δ x.den,δ x.mu,δ x.hu,δ x.du,η (x.nm),δ x.cnt,δ x.md,τ a 0 g] 53,ι (ε w + 2) [ξ false,δ 0,δ 0,δ 0] 56,ι (ε w + 3) [ξ false,δ 0,δ 0,δ 0,ξ false,δ 0,δ 0,δ 0,ξ false,δ 0,δ 0,δ 0] 188] [] []:=z.pk [0,1,2,3] []
 refine AU [(2,ζ (ε w)),(3,ζ (ε w + 1)),(4,ζ (ε w + 2)),(6,ζ (ε w + 3))] fun E2=>?_
 refine Of (todo':=Ry) (by kernel_rfl) ?_
 exact Jt ns ss p x (false,0,0,0) (false,0,0,0) (false,0,0,0) f d b a k j i 0 g (ε w) (ε w + 1) (ε w + 2) (ε w + 3) E2 w t s o q l r m y (fun _ _ h=>⟨h.1.trans (by unfold UX; rfl),h.2⟩)
def JT (r0:I2) (ns:List (Df)) (ss:List (Df)) (ps:List (Df)) (x:Ex):Bool×Int×Int×Int×Int:=cond (!((r0).2.2.2.2 == 0)) ((false,0,0,0,(r0).2.2.2.2)) (DM ns ss ps x (r0.1,r0.2.1,r0.2.2.1,r0.2.2.2.1) (false,0,0,0) (false,0,0,0))
def vm (r:Bool×Int×Int×Int×Int):Value:=.tuple #[ψ [ξ (r.1),δ (r.2.1),δ (r.2.2.1),δ (r.2.2.2.1)],δ (r.2.2.2.2)]
noncomputable def SP:Code:=Tryz.f112.body.getD .skip
def eP:List Item:=(Cm (HU (Gv 51)) 400 [true] ([.code SP])).2
def eO:List Item:=(Cm (fun _=>false) 400 [] (AC (AC eP))).2
def Qr:List Item:=(Cm (fun _=>false) 400 [] (AC eO)).2
def AD5:List Item:=(Cm (fun _=>false) 400 [] (AD Qr)).2
def AD4:List Item:=(Cm (Ln 10) 400 [false] (AF Qr)).2
theorem UV (o:I2) (d:Option Addr) (ns:List (Df)) (j:Nat) (b:Option Addr) (ss:List (Df)) (i:Nat) (a:Option Addr) (q:List (Df)) (f:Nat) (x:Ex) (r:Option Addr) (z:Ex) (l:Nat) (w:World) (d0:rowsDf w d ns) (v:ns.length≤4294967296) (b0:rowsDf w b ss) (s:ss.length≤4294967296) (c0:rowsDf w a q) (t:q.length≤4294967296) (a0:rowsEx w r [z]) (l0:x.ks.length=1) (j0:∀ u,Below (ε w) w u→∀ (A:Option Addr) (c:Nat),rowsEx u A z.ks→Calls Tryz.prog 112 ([ψ [τ d ns.length j,τ b ss.length i,τ a q.length f],ψ (AX z A c)]:List Value).toArray u fun e w'=>e=.returned (Js o)∧Below (ε u) u w'):Calls Tryz.prog 112 ([ψ [τ d ns.length j,τ b ss.length i,τ a q.length f],ψ [δ x.op,δ x.num,δ x.den,δ x.mu,δ x.hu,δ x.du,η (x.nm),δ x.cnt,δ x.md,τ r 1 l]]:List Value).toArray w fun e w'=>e=.returned (vm (JT o ns ss q x))∧Below (ε w) w w':=by
 refine AS (fn:=Tryz.f112) (c:=SP) (n:=204) ?_
 have K1:=Wk.start w
 obtain ⟨gk,m,rfl,i0,y⟩:=a0.all (by simp)
 obtain ⟨h0,g0,p,e0⟩:=y 0 z rfl
 refine CZ (Cm (HU (Gv 51)) 400 [true] ([.code SP])).1 [(15,1)] eP K1 fun w1 K2=>?_
 refine Ay (g:=gk) (off:=m) (cap:=l) (sz:=10) (k:=0) (len:=1) (some 21) (by decide) Tryz.underlying51 ?_
 refine BN 53 gk (m + 0 * 10) _ (some 22) (Ag p i0 K2.B) ?_
 refine CZ (Cm (fun _=>false) 400 [] (AC (AC eP))).1 [(2,0),(8,4)] eO K2 fun w2 K3=>?_
 refine AP K3 (args:=[ψ [τ d ns.length j,τ b ss.length i,τ a q.length f],ψ ((Γ z h0 g0))]) (j0 w2 K3.B _ _ (e0.below K3.B)) fun w3 K4=>?_
 refine CZ (Cm (fun _=>false) 400 [] (AC eO)).1 [(9,5)] Qr K4 fun w4 K5=>?_
 refine AG (!((o).2.2.2.2 == 0)) (fun c5=>?_) (fun c5=>?_)
 ·refine CZ (Cm (fun _=>false) 400 [] (AD Qr)).1 [(4,2)] AD5 K5 fun w6 K6=>?_
  exact AO K6 (2,0) _ (by unfold JT; rw [c5] <;> rfl)
 refine CZ (Cm (Ln 10) 400 [false] (AF Qr)).1 [(9,5),(35,3)] AD4 K5 fun w7 K7=>?_
 have K8:Wk w w7 [ι (ε w) [τ d ns.length j,τ b ss.length i,τ a q.length f] 178,ι (ε w + 1) [δ x.op,δ x.num,δ x.den,δ x.mu,δ x.hu,δ x.du,η (x.nm),δ x.cnt,δ x.md,τ (some ⟨gk,m,none⟩) 1 l] 53,ι (ε w + 2) [ξ false,δ 0,δ 0,δ 0] 56,ι (ε w + 3) [ξ ((o).1),δ ((o).2.1),δ ((o).2.2.1),δ ((o).2.2.2.1),ξ false,δ 0,δ 0,δ 0,ξ false,δ 0,δ 0,δ 0] 188] [] []:=K7.pk [0,1,2,3] []
 refine AU [(2,ζ (ε w)),(3,ζ (ε w + 1)),(4,ζ (ε w + 2)),(6,ζ (ε w + 3))] fun E8=>?_
 refine Of (todo':=Ry) (by kernel_rfl) ?_
 exact Jt ns ss q x (o.1,o.2.1,o.2.2.1,o.2.2.2.1) (false,0,0,0) (false,0,0,0) d b a (some ⟨gk,m,none⟩) j i f 1 l (ε w) (ε w + 1) (ε w + 2) (ε w + 3) E8 w w7 d0 v b0 s c0 t K8 (fun _ _ h=>⟨h.1.trans (by unfold JT; rw [c5] <;> rfl),h.2⟩)
def Lp (r0:I2) (r1:I2) (ns:List (Df)) (ss:List (Df)) (ps:List (Df)) (x:Ex):Bool×Int×Int×Int×Int:=cond (!((r0).2.2.2.2 == 0)) ((false,0,0,0,(r0).2.2.2.2)) (cond (!((r1).2.2.2.2 == 0)) ((false,0,0,0,(r1).2.2.2.2)) (DM ns ss ps x (r0.1,r0.2.1,r0.2.2.1,r0.2.2.2.1) (r1.1,r1.2.1,r1.2.2.1,r1.2.2.2.1) (false,0,0,0)))
def vl (r:Bool×Int×Int×Int×Int):Value:=.tuple #[ψ [ξ (r.1),δ (r.2.1),δ (r.2.2.1),δ (r.2.2.2.1)],δ (r.2.2.2.2)]
noncomputable def SO:Code:=Tryz.f112.body.getD .skip
def eN:List Item:=(Cm (HU (Gv 51)) 400 [true] ([.code SO])).2
def eM:List Item:=(Cm (fun _=>false) 400 [] (AC (AC eN))).2
def Qq:List Item:=(Cm (fun _=>false) 400 [] (AC eM)).2
def AD3:List Item:=(Cm (fun _=>false) 400 [] (AD Qq)).2
def eL:List Item:=(Cm (HU (Gv 51)) 400 [true] (AF Qq)).2
def eK:List Item:=(Cm (fun _=>false) 400 [] (AC (AC eL))).2
def Qp:List Item:=(Cm (fun _=>false) 400 [] (AC eK)).2
def AD2:List Item:=(Cm (fun _=>false) 400 [] (AD Qp)).2
def AD1:List Item:=(Cm (Ln 10) 400 [false] (AF Qp)).2
theorem UU (p o:I2) (d:Option Addr) (ns:List (Df)) (j:Nat) (b:Option Addr) (ss:List (Df)) (i:Nat) (a:Option Addr) (r:List (Df)) (f:Nat) (x:Ex) (v:Option Addr) (k0 k1:Ex) (m:Nat) (w:World) (i0:rowsDf w d ns) (a0:ns.length≤4294967296) (g0:rowsDf w b ss) (y:ss.length≤4294967296) (h0:rowsDf w a r) (z:r.length≤4294967296) (e0:rowsEx w v [k0,k1]) (e1:x.ks.length=2) (a1:∀ u,Below (ε w) w u→∀ (A:Option Addr) (c:Nat),rowsEx u A k0.ks→Calls Tryz.prog 112 ([ψ [τ d ns.length j,τ b ss.length i,τ a r.length f],ψ (AX k0 A c)]:List Value).toArray u fun e w'=>e=.returned (Js p)∧Below (ε u) u w') (z0:∀ u,Below (ε w) w u→∀ (A:Option Addr) (c:Nat),rowsEx u A k1.ks→Calls Tryz.prog 112 ([ψ [τ d ns.length j,τ b ss.length i,τ a r.length f],ψ (AX k1 A c)]:List Value).toArray u fun e w'=>e=.returned (Js o)∧Below (ε u) u w'):Calls Tryz.prog 112 ([ψ [τ d ns.length j,τ b ss.length i,τ a r.length f],ψ [δ x.op,δ x.num,δ x.den,δ x.mu,δ x.hu,δ x.du,η (x.nm),δ x.cnt,δ x.md,τ v 2 m]]:List Value).toArray w fun e w'=>e=.returned (vl (Lp p o ns ss r x))∧Below (ε w) w w':=by
 refine AS (fn:=Tryz.f112) (c:=SO) (n:=204) ?_
 have K1:=Wk.start w
 obtain ⟨gk,l,rfl,d0,q⟩:=e0.all (by simp)
 obtain ⟨t0,s0,t,l0⟩:=q 0 k0 rfl
 refine CZ (Cm (HU (Gv 51)) 400 [true] ([.code SO])).1 [(15,1)] eN K1 fun w1 K2=>?_
 refine Ay (g:=gk) (off:=l) (cap:=m) (sz:=10) (k:=0) (len:=2) (some 21) (by decide) Tryz.underlying51 ?_
 refine BN 53 gk (l + 0 * 10) _ (some 22) (Ag t d0 K2.B) ?_
 refine CZ (Cm (fun _=>false) 400 [] (AC (AC eN))).1 [(2,0),(8,4)] eM K2 fun w2 K3=>?_
 refine AP K3 (args:=[ψ [τ d ns.length j,τ b ss.length i,τ a r.length f],ψ ((Γ k0 t0 s0))]) (a1 w2 K3.B _ _ (l0.below K3.B)) fun w3 K4=>?_
 refine CZ (Cm (fun _=>false) 400 [] (AC eM)).1 [(9,5)] Qq K4 fun w4 K5=>?_
 refine AG (!((p).2.2.2.2 == 0)) (fun c5=>?_) (fun c5=>?_)
 ·refine CZ (Cm (fun _=>false) 400 [] (AD Qq)).1 [(4,2)] AD3 K5 fun w6 K6=>?_
  exact AO K6 (2,0) _ (by unfold Lp; rw [c5] <;> rfl)
 obtain ⟨q0,p0,s,j0⟩:=q 1 k1 rfl
 refine CZ (Cm (HU (Gv 51)) 400 [true] (AF Qq)).1 [(9,5),(35,3)] eL K5 fun w7 K7=>?_
 refine Ay (g:=gk) (off:=l) (cap:=m) (sz:=10) (k:=1) (len:=2) (some 21) (by decide) Tryz.underlying51 ?_
 refine BN 53 gk (l + 1 * 10) _ (some 22) (Ag s d0 K7.B) ?_
 refine CZ (Cm (fun _=>false) 400 [] (AC (AC eL))).1 [(2,0),(8,6)] eK K7 fun w8 K8=>?_
 refine AP K8 (args:=[ψ [τ d ns.length j,τ b ss.length i,τ a r.length f],ψ ((Γ k1 q0 p0))]) (z0 w8 K8.B _ _ (j0.below K8.B)) fun w9 K9=>?_
 refine CZ (Cm (fun _=>false) 400 [] (AC eK)).1 [(9,7)] Qp K9 fun d1 m0=>?_
 refine AG (!((o).2.2.2.2 == 0)) (fun b0=>?_) (fun b0=>?_)
 ·refine CZ (Cm (fun _=>false) 400 [] (AD Qp)).1 [(4,2)] AD2 m0 fun c1 x0=>?_
  exact AO x0 (2,0) _ (by unfold Lp; rw [c5,b0] <;> rfl)
 refine CZ (Cm (Ln 10) 400 [false] (AF Qp)).1 [(9,7),(35,3)] AD1 m0 fun c0 w0=>?_
 have v0:Wk w c0 [ι (ε w) [τ d ns.length j,τ b ss.length i,τ a r.length f] 178,ι (ε w + 1) [δ x.op,δ x.num,δ x.den,δ x.mu,δ x.hu,δ x.du,η (x.nm),δ x.cnt,δ x.md,τ (some ⟨gk,l,none⟩) 2 m] 53,ι (ε w + 2) [ξ false,δ 0,δ 0,δ 0] 56,ι (ε w + 3) [ξ ((p).1),δ ((p).2.1),δ ((p).2.2.1),δ ((p).2.2.2.1),ξ ((o).1),δ ((o).2.1),δ ((o).2.2.1),δ ((o).2.2.2.1),ξ false,δ 0,δ 0,δ 0] 188] [] []:=w0.pk [0,1,2,3] []
 refine AU [(2,ζ (ε w)),(3,ζ (ε w + 1)),(4,ζ (ε w + 2)),(6,ζ (ε w + 3))] fun b1=>?_
 refine Of (todo':=Ry) (by kernel_rfl) ?_
 exact Jt ns ss r x (p.1,p.2.1,p.2.2.1,p.2.2.2.1) (o.1,o.2.1,o.2.2.1,o.2.2.2.1) (false,0,0,0) d b a (some ⟨gk,l,none⟩) j i f 2 m (ε w) (ε w + 1) (ε w + 2) (ε w + 3) b1 w c0 i0 a0 g0 y h0 z v0 (fun _ _ h=>⟨h.1.trans (by unfold Lp; rw [c5,b0] <;> rfl),h.2⟩)
def KM (r0:I2) (r1:I2) (r2:I2) (ns:List (Df)) (ss:List (Df)) (ps:List (Df)) (x:Ex):Bool×Int×Int×Int×Int:=cond (!((r0).2.2.2.2 == 0)) ((false,0,0,0,(r0).2.2.2.2)) (cond (!((r1).2.2.2.2 == 0)) ((false,0,0,0,(r1).2.2.2.2)) (cond (!((r2).2.2.2.2 == 0)) ((false,0,0,0,(r2).2.2.2.2)) (DM ns ss ps x (r0.1,r0.2.1,r0.2.2.1,r0.2.2.2.1) (r1.1,r1.2.1,r1.2.2.1,r1.2.2.2.1) (r2.1,r2.2.1,r2.2.2.1,r2.2.2.2.1))))
def vk (r:Bool×Int×Int×Int×Int):Value:=.tuple #[ψ [ξ (r.1),δ (r.2.1),δ (r.2.2.1),δ (r.2.2.2.1)],δ (r.2.2.2.2)]
noncomputable def SN:Code:=Tryz.f112.body.getD .skip
def eJ:List Item:=(Cm (HU (Gv 51)) 400 [true] ([.code SN])).2
def eI:List Item:=(Cm (fun _=>false) 400 [] (AC (AC eJ))).2
def Qo:List Item:=(Cm (fun _=>false) 400 [] (AC eI)).2
def AD0:List Item:=(Cm (fun _=>false) 400 [] (AD Qo)).2
def eH:List Item:=(Cm (HU (Gv 51)) 400 [true] (AF Qo)).2
def eG:List Item:=(Cm (fun _=>false) 400 [] (AC (AC eH))).2
def Qn:List Item:=(Cm (fun _=>false) 400 [] (AC eG)).2
def ADz:List Item:=(Cm (fun _=>false) 400 [] (AD Qn)).2
def eF:List Item:=(Cm (HU (Gv 51)) 400 [true] (AF Qn)).2
def eE:List Item:=(Cm (fun _=>false) 400 [] (AC (AC eF))).2
def NT:List Item:=(Cm (fun _=>false) 400 [] (AC eE)).2
def AAF:List Item:=(Cm (fun _=>false) 400 [] (AD NT)).2
def AAE:List Item:=(Cm (Ln 10) 400 [false] (AF NT)).2
theorem UT (s r q:I2) (d:Option Addr) (ns:List (Df)) (j:Nat) (b:Option Addr) (ss:List (Df)) (i:Nat) (a:Option Addr) (p:List (Df)) (f:Nat) (x:Ex) (a0:Option Addr) (k0 k1 k2:Ex) (m:Nat) (w:World) (p0:rowsDf w d ns) (d0:ns.length≤4294967296) (l0:rowsDf w b ss) (b0:ss.length≤4294967296) (m0:rowsDf w a p) (c0:p.length≤4294967296) (j0:rowsEx w a0 [k0,k1,k2]) (a2:x.ks.length=3) (p1:∀ u,Below (ε w) w u→∀ (A:Option Addr) (c:Nat),rowsEx u A k0.ks→Calls Tryz.prog 112 ([ψ [τ d ns.length j,τ b ss.length i,τ a p.length f],ψ (AX k0 A c)]:List Value).toArray u fun e w'=>e=.returned (Js s)∧Below (ε u) u w') (o1:∀ u,Below (ε w) w u→∀ (A:Option Addr) (c:Nat),rowsEx u A k1.ks→Calls Tryz.prog 112 ([ψ [τ d ns.length j,τ b ss.length i,τ a p.length f],ψ (AX k1 A c)]:List Value).toArray u fun e w'=>e=.returned (Js r)∧Below (ε u) u w') (n1:∀ u,Below (ε w) w u→∀ (A:Option Addr) (c:Nat),rowsEx u A k2.ks→Calls Tryz.prog 112 ([ψ [τ d ns.length j,τ b ss.length i,τ a p.length f],ψ (AX k2 A c)]:List Value).toArray u fun e w'=>e=.returned (Js q)∧Below (ε u) u w'):Calls Tryz.prog 112 ([ψ [τ d ns.length j,τ b ss.length i,τ a p.length f],ψ [δ x.op,δ x.num,δ x.den,δ x.mu,δ x.hu,δ x.du,η (x.nm),δ x.cnt,δ x.md,τ a0 3 m]]:List Value).toArray w fun e w'=>e=.returned (vk (KM s r q ns ss p x))∧Below (ε w) w w':=by
 refine AS (fn:=Tryz.f112) (c:=SN) (n:=204) ?_
 have K1:=Wk.start w
 obtain ⟨gk,l,rfl,e0,o⟩:=j0.all (by simp)
 obtain ⟨f1,e1,y,t0⟩:=o 0 k0 rfl
 refine CZ (Cm (HU (Gv 51)) 400 [true] ([.code SN])).1 [(15,1)] eJ K1 fun w1 K2=>?_
 refine Ay (g:=gk) (off:=l) (cap:=m) (sz:=10) (k:=0) (len:=3) (some 21) (by decide) Tryz.underlying51 ?_
 refine BN 53 gk (l + 0 * 10) _ (some 22) (Ag y e0 K2.B) ?_
 refine CZ (Cm (fun _=>false) 400 [] (AC (AC eJ))).1 [(2,0),(8,4)] eI K2 fun w2 K3=>?_
 refine AP K3 (args:=[ψ [τ d ns.length j,τ b ss.length i,τ a p.length f],ψ ((Γ k0 f1 e1))]) (p1 w2 K3.B _ _ (t0.below K3.B)) fun w3 K4=>?_
 refine CZ (Cm (fun _=>false) 400 [] (AC eI)).1 [(9,5)] Qo K4 fun w4 K5=>?_
 refine AG (!((s).2.2.2.2 == 0)) (fun c5=>?_) (fun c5=>?_)
 ·refine CZ (Cm (fun _=>false) 400 [] (AD Qo)).1 [(4,2)] AD0 K5 fun w6 K6=>?_
  exact AO K6 (2,0) _ (by unfold KM; rw [c5] <;> rfl)
 obtain ⟨d1,c1,v,s0⟩:=o 1 k1 rfl
 refine CZ (Cm (HU (Gv 51)) 400 [true] (AF Qo)).1 [(9,5),(35,3)] eH K5 fun w7 K7=>?_
 refine Ay (g:=gk) (off:=l) (cap:=m) (sz:=10) (k:=1) (len:=3) (some 21) (by decide) Tryz.underlying51 ?_
 refine BN 53 gk (l + 1 * 10) _ (some 22) (Ag v e0 K7.B) ?_
 refine CZ (Cm (fun _=>false) 400 [] (AC (AC eH))).1 [(2,0),(8,6)] eG K7 fun w8 K8=>?_
 refine AP K8 (args:=[ψ [τ d ns.length j,τ b ss.length i,τ a p.length f],ψ ((Γ k1 d1 c1))]) (o1 w8 K8.B _ _ (s0.below K8.B)) fun w9 K9=>?_
 refine CZ (Cm (fun _=>false) 400 [] (AC eG)).1 [(9,7)] Qn K9 fun z1 x0=>?_
 refine AG (!((r).2.2.2.2 == 0)) (fun z=>?_) (fun z=>?_)
 ·refine CZ (Cm (fun _=>false) 400 [] (AD Qn)).1 [(4,2)] ADz x0 fun x1 m1=>?_
  exact AO m1 (2,0) _ (by unfold KM; rw [c5,z] <;> rfl)
 obtain ⟨b1,a1,t,q0⟩:=o 2 k2 rfl
 refine CZ (Cm (HU (Gv 51)) 400 [true] (AF Qn)).1 [(9,7),(35,3)] eF x0 fun v1 w0=>?_
 refine Ay (g:=gk) (off:=l) (cap:=m) (sz:=10) (k:=2) (len:=3) (some 21) (by decide) Tryz.underlying51 ?_
 refine BN 53 gk (l + 2 * 10) _ (some 22) (Ag t e0 w0.B) ?_
 refine CZ (Cm (fun _=>false) 400 [] (AC (AC eF))).1 [(2,0),(8,8)] eE w0 fun z0 h0=>?_
 refine AP h0 (args:=[ψ [τ d ns.length j,τ b ss.length i,τ a p.length f],ψ ((Γ k2 b1 a1))]) (n1 z0 h0.B _ _ (q0.below h0.B)) fun u1 l1=>?_
 refine CZ (Cm (fun _=>false) 400 [] (AC eE)).1 [(9,9)] NT l1 fun t1 v0=>?_
 refine AG (!((q).2.2.2.2 == 0)) (fun g0=>?_) (fun g0=>?_)
 ·refine CZ (Cm (fun _=>false) 400 [] (AD NT)).1 [(4,2)] AAF v0 fun s1 i1=>?_
  exact AO i1 (2,0) _ (by unfold KM; rw [c5,z,g0] <;> rfl)
 refine CZ (Cm (Ln 10) 400 [false] (AF NT)).1 [(9,9),(35,3)] AAE v0 fun i0 h1=>?_
 have g1:Wk w i0 [ι (ε w) [τ d ns.length j,τ b ss.length i,τ a p.length f] 178,ι (ε w + 1) [δ x.op,δ x.num,δ x.den,δ x.mu,δ x.hu,δ x.du,η (x.nm),δ x.cnt,δ x.md,τ (some ⟨gk,l,none⟩) 3 m] 53,ι (ε w + 2) [ξ false,δ 0,δ 0,δ 0] 56,ι (ε w + 3) [ξ ((s).1),δ ((s).2.1),δ ((s).2.2.1),δ ((s).2.2.2.1),ξ ((r).1),δ ((r).2.1),δ ((r).2.2.1),δ ((r).2.2.2.1),ξ ((q).1),δ ((q).2.1),δ ((q).2.2.1),δ ((q).2.2.2.1)] 188] [] []:=h1.pk [0,1,2,3] []
 refine AU [(2,ζ (ε w)),(3,ζ (ε w + 1)),(4,ζ (ε w + 2)),(6,ζ (ε w + 3))] fun q1=>?_
 refine Of (todo':=Ry) (by kernel_rfl) ?_
 exact Jt ns ss p x (s.1,s.2.1,s.2.2.1,s.2.2.2.1) (r.1,r.2.1,r.2.2.1,r.2.2.2.1) (q.1,q.2.1,q.2.2.1,q.2.2.2.1) d b a (some ⟨gk,l,none⟩) j i f 3 m (ε w) (ε w + 1) (ε w + 2) (ε w + 3) q1 w i0 p0 d0 l0 b0 m0 c0 g1 (fun _ _ h=>⟨h.1.trans (by unfold KM; rw [c5,z,g0] <;> rfl),h.2⟩)
end
end Go.Proofs.YtkjbdagicjbjjaaGreat

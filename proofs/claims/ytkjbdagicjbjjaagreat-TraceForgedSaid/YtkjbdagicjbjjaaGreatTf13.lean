/-
  Part 13 of a proof: contracts of functions.
-/
import Derived.Test.YtkjbdagicjbjjaaGreatTf10
set_option linter.all false
namespace Go.Proofs.YtkjbdagicjbjjaaGreat
noncomputable section
open Go.RowKit
set_option maxRecDepth 100000
set_option maxHeartbeats 1000000
attribute [local irreducible] A8 BL AC AD AF Ao AY AL Aq Bb Cn BR BK At Fr
def C7 (ns:List Df) (ss:List Df) (ps:List Df) (x:Ex) (k0:Bool×Int×Int×Int) (k1:Bool×Int×Int×Int) (k2:Bool×Int×Int×Int):Bool×Int×Int×Int×Int:=cond (x.op == 1) ((false,x.mu,x.hu,x.du,0)) (cond (x.op == 2) ((true,0,0,0,0)) (cond (x.op == 3) (Cp ns x.nm) (cond (x.op == 20) (Cp ps x.nm) (cond (x.op == 21) (Cp ps x.nm) (cond (x.op == 4) (cond ((Cp ss x.nm).2.2.2.2 == 0) (AZ ((Cp ss x.nm).1) ((Cp ss x.nm).2.1) ((Cp ss x.nm).2.2.1) ((Cp ss x.nm).2.2.2.1) (DV k0.1 k0.2.1 k0.2.2.1 k0.2.2.2 0 0 0)) (AZ ((Cp ss x.nm).1) ((Cp ss x.nm).2.1) ((Cp ss x.nm).2.2.1) ((Cp ss x.nm).2.2.2.1) ((Cp ss x.nm).2.2.2.2))) (cond (x.op == 5) (AZ k0.1 k0.2.1 k0.2.2.1 k0.2.2.2 (BF k0.1 k0.2.1 k0.2.2.1 k0.2.2.2 k1.1 k1.2.1 k1.2.2.1 k1.2.2.2)) (cond (x.op == 6) (AZ k0.1 k0.2.1 k0.2.2.1 k0.2.2.2 (BF k0.1 k0.2.1 k0.2.2.1 k0.2.2.2 k1.1 k1.2.1 k1.2.2.1 k1.2.2.2)) (cond (x.op == 14) (AZ k0.1 k0.2.1 k0.2.2.1 k0.2.2.2 (BF k0.1 k0.2.1 k0.2.2.1 k0.2.2.2 k1.1 k1.2.1 k1.2.2.1 k1.2.2.2)) (cond (x.op == 15) (AZ k0.1 k0.2.1 k0.2.2.1 k0.2.2.2 (BF k0.1 k0.2.1 k0.2.2.1 k0.2.2.2 k1.1 k1.2.1 k1.2.2.1 k1.2.2.2)) (cond (x.op == 7) (Fn x.op k0.1 k0.2.1 k0.2.2.1 k0.2.2.2 k1.1 k1.2.1 k1.2.2.1 k1.2.2.2) (cond (x.op == 8) (Fn x.op k0.1 k0.2.1 k0.2.2.1 k0.2.2.2 k1.1 k1.2.1 k1.2.2.1 k1.2.2.2) (cond (x.op == 9) (AZ true 0 0 0 (BF k0.1 k0.2.1 k0.2.2.1 k0.2.2.2 k1.1 k1.2.1 k1.2.2.1 k1.2.2.2)) (cond (x.op == 10) (AZ true 0 0 0 (BF k0.1 k0.2.1 k0.2.2.1 k0.2.2.2 k1.1 k1.2.1 k1.2.2.1 k1.2.2.2)) (cond (x.op == 11) (AZ true 0 0 0 (GA k0.1 k0.2.1 k0.2.2.1 k0.2.2.2 k1.1 k1.2.1 k1.2.2.1 k1.2.2.2)) (cond (x.op == 12) (AZ true 0 0 0 (Aw [(k0.1,k0.2.1,k0.2.2.1,k0.2.2.2),(k1.1,k1.2.1,k1.2.2.1,k1.2.2.2)])) (cond (x.op == 13) (AZ true 0 0 0 (Aw [(k0.1,k0.2.1,k0.2.2.1,k0.2.2.2),(k1.1,k1.2.1,k1.2.2.1,k1.2.2.2)])) (cond (x.op == 17) (AZ true 0 0 0 (Aw [(k0.1,k0.2.1,k0.2.2.1,k0.2.2.2)])) (cond (x.op == 16) (AZ k0.1 k0.2.1 k0.2.2.1 k0.2.2.2 (CC [(k0.1,k0.2.1,k0.2.2.1,k0.2.2.2)])) (cond (x.op == 18) (cond (Aw [(k0.1,k0.2.1,k0.2.2.1,k0.2.2.2)] == 0) (AZ k1.1 k1.2.1 k1.2.2.1 k1.2.2.2 (GA k1.1 k1.2.1 k1.2.2.1 k1.2.2.2 k2.1 k2.2.1 k2.2.2.1 k2.2.2.2)) (AZ k1.1 k1.2.1 k1.2.2.1 k1.2.2.2 (Aw [(k0.1,k0.2.1,k0.2.2.1,k0.2.2.2)]))) (cond (x.op == 19) (AZ k0.1 k0.2.1 k0.2.2.1 k0.2.2.2 (DV k0.1 k0.2.1 k0.2.2.1 k0.2.2.2 x.mu x.hu x.du)) ((false,0,0,0,1))))))))))))))))))))))
abbrev I7:=Bool×Int×Int×Int×Int
noncomputable def yw:Code:=Tryz.f112.body.getD .skip
def AC2:=AA 60 [.code yw]
def AC1:=AA 60 (Ao AC2)
def Qc:=Ai 10 (AF AC1)
def bZ:=AA 60 (Qc)
def ABR:=AA 60 (AD bZ)
def bY:=AA 60 (AF bZ)
def ABQ:=AA 60 (AD bY)
def bX:=AA 60 (AF bY)
def rZ:=AA 60 (AD bX)
def ABP:=AA 60 (AC rZ)
def bW:=AA 60 (AF bX)
def rY:=AA 60 (AD bW)
def rX:=AA 60 (AD rY)
def xN:=AA 60 (AC rX)
def VF:=AA 60 (AF bW)
def jU:=AA 60 (AD VF)
def xM:=AA 60 (AC jU)
def VE:=AA 60 (AF VF)
def jT:=AA 60 (AD VE)
def VD:=AA 60 (AC jT)
def jS:=AA 60 (AD VD)
def jR:=AA 60 (AC jS)
def xL:=AA 60 (AC jR)
def jQ:=AA 60 (AF VD)
def xK:=AA 60 (AC jQ)
def VC:=AA 60 (AF VE)
def jP:=AA 60 (AD VC)
def jO:=Ai 30 (AD jP)
def xJ:=AA 60 (AL jO)
def VB:=AA 60 (AF VC)
def jN:=AA 60 (AD VB)
def jM:=Ai 30 (AD jN)
def xI:=AA 60 (AL jM)
def VA:=AA 60 (AF VB)
def jL:=AA 60 (AD VA)
def jK:=Ai 30 (AD jL)
def xH:=AA 60 (AL jK)
def U9:=AA 60 (AF VA)
def jJ:=Ai 30 (AD U9)
def xG:=AA 60 (AL jJ)
def U8:=AA 60 (AF U9)
def jI:=AA 60 (AD U8)
def jH:=AA 60 (AD jI)
def xF:=AA 60 (AC jH)
def U7:=AA 60 (AF U8)
def jG:=AA 60 (AD U7)
def xE:=AA 60 (AC jG)
def U6:=AA 60 (AF U7)
def jF:=AA 60 (AD U6)
def jE:=Ai 36 (AD jF)
def xD:=AA 60 (AL jE)
def U5:=AA 60 (AF U6)
def jD:=Ai 36 (AD U5)
def xC:=AA 60 (AL jD)
def U4:=AA 60 (AF U5)
def jC:=Ai 38 (AD U4)
def xB:=AA 60 (AL jC)
def U3:=AA 60 (AF U4)
def jB:=AA 60 (AD U3)
def U2:=Ai 41 (AD jB)
def OB:Array Oper:=(FD U2).getD #[]
def s5:Wr:=[(141,0),(142,1),(143,2),(144,3),(145,4),(146,5),(147,6),(148,7),(149,8),(150,9)]
def xA:=AA 60 (AL U2)
def U1:=AA 60 (AF U3)
def U0:=Ai 41 (AD U1)
def Lj:Array Oper:=(FD U0).getD #[]
def eS:Wr:=[(141,0),(142,1),(143,2),(144,3),(145,4),(146,5),(147,6),(148,7),(149,8),(150,9)]
def ww:=AA 60 (AL U0)
def Uz:=AA 60 (AF U1)
def Uy:=Ai 43 (AD Uz)
def OA:Array Oper:=(FD Uy).getD #[]
def s4:Wr:=[(153,0),(154,1),(155,2),(156,3),(157,4),(158,5),(159,6),(160,7)]
def wv:=AA 60 (AL Uy)
def Ux:=AA 60 (AF Uz)
def Uw:=Ai 45 (AD Ux)
def N9:Array Oper:=(FD Uw).getD #[]
def s3:Wr:=[(163,0),(164,1),(165,2),(166,3),(167,4),(168,5),(169,6),(170,7),(171,8)]
def wu:=AA 60 (AL Uw)
def Uv:=AA 60 (AF Ux)
def jA:=AA 60 (AD Uv)
def Uu:=AA 60 (AC jA)
def i9:=AA 60 (AD Uu)
def i8:=AA 60 (AC i9)
def wt:=AA 60 (AC i8)
def i7:=AA 60 (AF Uu)
def wo:=AA 60 (AC i7)
def Ut:=AA 60 (AF Uv)
def i6:=Ai 52 (AD Ut)
def wn:=AA 60 (AL i6)
def wm:=AA 60 (AF Ut)
def JL (r:I7):Value:=.tuple #[.agg ⟨[.bool (r.1),AI (r.2.1),AI (r.2.2.1),AI (r.2.2.2.1)]⟩,AI (r.2.2.2.2)]
theorem JM {R:Ending→World→Prop} (ns ss ps:List Df) (x:Ex) (a b k2:Bool×Int×Int×Int) (s0 r0 i0 pA:Option Addr) (v0 t0 q0 pk pc g2 g3 g4 z:Nat) (E0:Nat→Value) (w we:World) (s2:rowsDf w s0 ns) (v8:ns.length≤4294967296) (r2:rowsDf w r0 ss) (q8:ss.length≤4294967296) (i1:rowsDf w i0 ps) (u8:ps.length≤4294967296) (K:Wk w we [⟨g2,0,[.slice s0 ns.length v0,.slice r0 ss.length t0,.slice i0 ps.length q0],178,true⟩,⟨g3,0,[AI x.op,AI x.num,AI x.den,AI x.mu,AI x.hu,AI x.du,By (x.nm),AI x.cnt,AI x.md,.slice pA pk pc],53,true⟩,⟨g4,0,[.bool false,AI 0,AI 0,AI 0],56,true⟩,⟨z,0,[.bool (a.1),AI a.2.1,AI a.2.2.1,AI a.2.2.2,.bool (b.1),AI b.2.1,AI b.2.2.1,AI b.2.2.2,.bool (k2.1),AI k2.2.1,AI k2.2.2.1,AI k2.2.2.2],188,true⟩] [] []) (o:∀ e w',(e=.returned (JL (C7 ns ss ps x a b k2))∧Below w.heap.size w w')→R e w'):At Tryz.prog 112 R Qc (Fr 204 (BC E0 [(2,BY g2),(3,BY g3),(4,BY g4),(6,BY z)])) we:=by
 refine Af bZ [⟨g2,0,[.slice s0 ns.length v0,.slice r0 ss.length t0,.slice i0 ps.length q0],178,true⟩,⟨g3,0,[AI x.op,AI x.num,AI x.den,AI x.mu,AI x.hu,AI x.du,By (x.nm),AI x.cnt,AI x.md,.slice pA pk pc],53,true⟩,⟨g4,0,[.bool false,AI 0,AI 0,AI 0],56,true⟩,⟨z,0,[.bool (a.1),AI a.2.1,AI a.2.2.1,AI a.2.2.2,.bool (b.1),AI b.2.1,AI b.2.2.1,AI b.2.2.2,.bool (k2.1),AI k2.2.1,AI k2.2.2.1,AI k2.2.2.2],188,true⟩,⟨we.heap.size,0,[.bool true,AI 0,AI 0,AI 0],56,true⟩] K [(4,0),(1,0)] fun w1 K1=>?_
 refine AG (x.op == 1) (fun y=>?_) (fun y=>?_)
 ·refine Aj ABR K1 [(1,3),(2,0)] fun w3 K2=>?_
  exact AJ K2 (2,0) (.tuple #[.agg ⟨[.bool false,AI x.mu,AI x.hu,AI x.du]⟩,AI 0]) (o _ _ ⟨by unfold C7; rw [y] <;> rfl,K2.B⟩)
 ·refine AB bY K1 [] fun w4 K3=>?_
  refine AG (x.op == 2) (fun c5=>?_) (fun c5=>?_)
  ·refine Aj ABQ K3 [(4,0),(2,0)] fun w6 K4=>?_
   exact AJ K4 (2,0) (.tuple #[.agg ⟨[.bool true,AI 0,AI 0,AI 0]⟩,AI 0]) (o _ _ ⟨by unfold C7; rw [y,c5] <;> rfl,K4.B⟩)
  ·refine AB bX K3 [] fun w7 K5=>?_
   refine AG (x.op == 3) (fun c8=>?_) (fun c8=>?_)
   ·refine AB rZ K5 [(0,0),(1,6)] fun w9 K6=>?_
    refine AQ K6 (Lz s0 ns v0 x.nm w9 (s2.below K6.B) (by first | assumption | omega | (simp <;> omega))) fun w10 K7=>?_
    refine Aj ABP K7 [(2,0)] fun w11 K8=>?_
    exact AJ K8 (2,0) (P6 (Cp ns x.nm)) (o _ _ ⟨by unfold C7; rw [y,c5,c8] <;> rfl,K8.B⟩)
   ·refine AB bW K5 [] fun w12 K9=>?_
    refine AG (x.op == 20) (fun d=>?_) (fun d=>?_)
    ·refine AB rY K9 [] fun w14 wp=>?_
     refine AG (x.op == 20) (fun _=>?_) (fun h=>nomatch h.symm.trans d)
     refine AB rX wp [(0,2),(1,6)] fun f8 k6=>?_
     refine AQ k6 (Lz i0 ps q0 x.nm f8 (i1.below k6.B) (by first | assumption | omega | (simp <;> omega))) fun w17 wl=>?_
     refine Aj xN wl [(2,0)] fun w18 c6=>?_
     exact AJ c6 (2,0) (P6 (Cp ps x.nm)) (o _ _ ⟨by unfold C7; rw [y,c5,c8,d] <;> rfl,c6.B⟩)
    ·refine AB VF K9 [] fun w19 b6=>?_
     refine AG (x.op == 21) (fun g=>?_) (fun g=>?_)
     ·refine AB jU b6 [(0,2),(1,6)] fun b8 a6=>?_
      refine AQ a6 (Lz i0 ps q0 x.nm b8 (i1.below a6.B) (by first | assumption | omega | (simp <;> omega))) fun w22 wf=>?_
      refine Aj xM wf [(2,0)] fun w23 z5=>?_
      exact AJ z5 (2,0) (P6 (Cp ps x.nm)) (o _ _ ⟨by unfold C7; rw [y,c5,c8,d,g] <;> rfl,z5.B⟩)
     ·refine AB VE b6 [] fun w24 w5=>?_
      refine AG (x.op == 4) (fun j=>?_) (fun j=>?_)
      ·refine AB jT w5 [(0,1),(1,6)] fun a8 v5=>?_
       refine AQ v5 (Lz r0 ss t0 x.nm a8 (r2.below v5.B) (by first | assumption | omega | (simp <;> omega))) fun w27 wb=>?_
       refine Aj VD wb [(5,0)] fun w28 t5=>?_
       refine AG ((Cp ss x.nm).2.2.2.2 == 0) (fun u1=>?_) (fun u1=>?_)
       ·refine AB jS t5 [(3,0)] fun z7 wa=>?_
        refine AQ wa (Js a.1 a.2.1 a.2.2.1 a.2.2.2 0 0 0 z7) fun w31 vv=>?_
        refine AB jR vv [(5,0)] fun v7 vs=>?_
        refine AQ vs (DD ((Cp ss x.nm).1) ((Cp ss x.nm).2.1) ((Cp ss x.nm).2.2.1) ((Cp ss x.nm).2.2.2.1) (DV a.1 a.2.1 a.2.2.1 a.2.2.2 0 0 0) v7) fun w33 vi=>?_
        refine Aj xL vi [(2,0)] fun w34 q5=>?_
        exact AJ q5 (2,0) (Bo (AZ ((Cp ss x.nm).1) ((Cp ss x.nm).2.1) ((Cp ss x.nm).2.2.1) ((Cp ss x.nm).2.2.2.1) (DV a.1 a.2.1 a.2.2.1 a.2.2.2 0 0 0))) (o _ _ ⟨by unfold C7; rw [y,c5,c8,d,g,j,u1] <;> rfl,q5.B⟩)
       ·refine AB jQ t5 [(5,0)] fun q7 vf=>?_
        refine AQ vf (DD ((Cp ss x.nm).1) ((Cp ss x.nm).2.1) ((Cp ss x.nm).2.2.1) ((Cp ss x.nm).2.2.2.1) ((Cp ss x.nm).2.2.2.2) q7) fun w36 vd=>?_
        refine Aj xK vd [(2,0)] fun w37 k5=>?_
        exact AJ k5 (2,0) (Bo (AZ ((Cp ss x.nm).1) ((Cp ss x.nm).2.1) ((Cp ss x.nm).2.2.1) ((Cp ss x.nm).2.2.2.1) ((Cp ss x.nm).2.2.2.2))) (o _ _ ⟨by unfold C7; rw [y,c5,c8,d,g,j,u1] <;> rfl,k5.B⟩)
      ·refine AB VC w5 [] fun w38 g5=>?_
       refine AG (x.op == 5) (fun l=>?_) (fun l=>?_)
       ·refine AB jP g5 [] fun w40 zs=>?_
        refine AG (x.op == 5) (fun _=>?_) (fun h=>nomatch h.symm.trans l)
        refine Am 30 jO zs [] fun w42 e5=>?_
        refine Fk e5 [0,1,2,3,4,5,6,7,8,9] [(1,3,0),(3,3,0),(5,3,4)] [⟨6,[(96,.agg ⟨[.bool (a.1),AI a.2.1,AI a.2.2.1,AI a.2.2.2]⟩),(98,.agg ⟨[.bool (b.1),AI b.2.1,AI b.2.2.1,AI b.2.2.2]⟩)],AI (BF a.1 a.2.1 a.2.2.1 a.2.2.2 b.1 b.2.1 b.2.2.1 b.2.2.2),true⟩,⟨7,[(94,.agg ⟨[.bool (a.1),AI a.2.1,AI a.2.2.1,AI a.2.2.2]⟩),(99,AI (BF a.1 a.2.1 a.2.2.1 a.2.2.2 b.1 b.2.1 b.2.2.1 b.2.2.2))],Bo (AZ a.1 a.2.1 a.2.2.1 a.2.2.2 (BF a.1 a.2.1 a.2.2.1 a.2.2.2 b.1 b.2.1 b.2.2.1 b.2.2.2)),true⟩] [(10,2,0),(11,0,0)] e5.G (fun sp c=>?_) fun z43 w43 za=>?_
        ·simp only [List.mem_cons,List.not_mem_nil,or_false] at c
         rcases c with rfl | rfl
         ·exact AV 128 [.tmp 96,.tmp 98] [.agg ⟨[.bool (a.1),AI a.2.1,AI a.2.2.1,AI a.2.2.2]⟩,.agg ⟨[.bool (b.1),AI b.2.1,AI b.2.2.1,AI b.2.2.2]⟩] (fun _=>by kernel_rfl) fun hc u hu=>AN hu (FM a.1 a.2.1 a.2.2.1 a.2.2.2 b.1 b.2.1 b.2.2.1 b.2.2.2 u)
         ·exact AV 127 [.tmp 94,.tmp 99] [.agg ⟨[.bool (a.1),AI a.2.1,AI a.2.2.1,AI a.2.2.2]⟩,AI (BF a.1 a.2.1 a.2.2.1 a.2.2.2 b.1 b.2.1 b.2.2.1 b.2.2.2)] (fun _=>by kernel_rfl) fun hc u hu=>AN hu (DD a.1 a.2.1 a.2.2.1 a.2.2.2 (BF a.1 a.2.1 a.2.2.1 a.2.2.2 b.1 b.2.1 b.2.2.1 b.2.2.2) u)
        refine AB xJ za [] fun w44 b5=>?_
        exact AJ b5 (2,0) (Bo (AZ a.1 a.2.1 a.2.2.1 a.2.2.2 (BF a.1 a.2.1 a.2.2.1 a.2.2.2 b.1 b.2.1 b.2.2.1 b.2.2.2))) (o _ _ ⟨by unfold C7; rw [y,c5,c8,d,g,j,l] <;> rfl,b5.B⟩)
       ·refine AB VB g5 [] fun w45 a5=>?_
        refine AG (x.op == 6) (fun m=>?_) (fun m=>?_)
        ·refine AB jN a5 [] fun w47 xs=>?_
         refine AG (x.op == 6) (fun _=>?_) (fun h=>nomatch h.symm.trans m)
         refine Am 30 jM xs [] fun w49 z4=>?_
         refine Fk z4 [0,1,2,3,4,5,6,7,8,9] [(1,3,0),(3,3,0),(5,3,4)] [⟨6,[(96,.agg ⟨[.bool (a.1),AI a.2.1,AI a.2.2.1,AI a.2.2.2]⟩),(98,.agg ⟨[.bool (b.1),AI b.2.1,AI b.2.2.1,AI b.2.2.2]⟩)],AI (BF a.1 a.2.1 a.2.2.1 a.2.2.2 b.1 b.2.1 b.2.2.1 b.2.2.2),true⟩,⟨7,[(94,.agg ⟨[.bool (a.1),AI a.2.1,AI a.2.2.1,AI a.2.2.2]⟩),(99,AI (BF a.1 a.2.1 a.2.2.1 a.2.2.2 b.1 b.2.1 b.2.2.1 b.2.2.2))],Bo (AZ a.1 a.2.1 a.2.2.1 a.2.2.2 (BF a.1 a.2.1 a.2.2.1 a.2.2.2 b.1 b.2.1 b.2.2.1 b.2.2.2)),true⟩] [(10,2,0),(11,0,0)] z4.G (fun sp c=>?_) fun z50 w50 xb=>?_
         ·simp only [List.mem_cons,List.not_mem_nil,or_false] at c
          rcases c with rfl | rfl
          ·exact AV 128 [.tmp 96,.tmp 98] [.agg ⟨[.bool (a.1),AI a.2.1,AI a.2.2.1,AI a.2.2.2]⟩,.agg ⟨[.bool (b.1),AI b.2.1,AI b.2.2.1,AI b.2.2.2]⟩] (fun _=>by kernel_rfl) fun hc u hu=>AN hu (FM a.1 a.2.1 a.2.2.1 a.2.2.2 b.1 b.2.1 b.2.2.1 b.2.2.2 u)
          ·exact AV 127 [.tmp 94,.tmp 99] [.agg ⟨[.bool (a.1),AI a.2.1,AI a.2.2.1,AI a.2.2.2]⟩,AI (BF a.1 a.2.1 a.2.2.1 a.2.2.2 b.1 b.2.1 b.2.2.1 b.2.2.2)] (fun _=>by kernel_rfl) fun hc u hu=>AN hu (DD a.1 a.2.1 a.2.2.1 a.2.2.2 (BF a.1 a.2.1 a.2.2.1 a.2.2.2 b.1 b.2.1 b.2.2.1 b.2.2.2) u)
         refine AB xI xb [] fun w51 v4=>?_
         exact AJ v4 (2,0) (Bo (AZ a.1 a.2.1 a.2.2.1 a.2.2.2 (BF a.1 a.2.1 a.2.2.1 a.2.2.2 b.1 b.2.1 b.2.2.1 b.2.2.2))) (o _ _ ⟨by unfold C7; rw [y,c5,c8,d,g,j,l,m] <;> rfl,v4.B⟩)
        ·refine AB VA a5 [] fun w52 t4=>?_
         refine AG (x.op == 14) (fun n=>?_) (fun n=>?_)
         ·refine AB jL t4 [] fun w54 kx=>?_
          refine AG (x.op == 14) (fun _=>?_) (fun h=>nomatch h.symm.trans n)
          refine Am 30 jK kx [] fun w56 q4=>?_
          refine Fk q4 [0,1,2,3,4,5,6,7,8,9] [(1,3,0),(3,3,0),(5,3,4)] [⟨6,[(96,.agg ⟨[.bool (a.1),AI a.2.1,AI a.2.2.1,AI a.2.2.2]⟩),(98,.agg ⟨[.bool (b.1),AI b.2.1,AI b.2.2.1,AI b.2.2.2]⟩)],AI (BF a.1 a.2.1 a.2.2.1 a.2.2.2 b.1 b.2.1 b.2.2.1 b.2.2.2),true⟩,⟨7,[(94,.agg ⟨[.bool (a.1),AI a.2.1,AI a.2.2.1,AI a.2.2.2]⟩),(99,AI (BF a.1 a.2.1 a.2.2.1 a.2.2.2 b.1 b.2.1 b.2.2.1 b.2.2.2))],Bo (AZ a.1 a.2.1 a.2.2.1 a.2.2.2 (BF a.1 a.2.1 a.2.2.1 a.2.2.2 b.1 b.2.1 b.2.2.1 b.2.2.2)),true⟩] [(10,2,0),(11,0,0)] q4.G (fun sp c=>?_) fun z57 w57 kv=>?_
          ·simp only [List.mem_cons,List.not_mem_nil,or_false] at c
           rcases c with rfl | rfl
           ·exact AV 128 [.tmp 96,.tmp 98] [.agg ⟨[.bool (a.1),AI a.2.1,AI a.2.2.1,AI a.2.2.2]⟩,.agg ⟨[.bool (b.1),AI b.2.1,AI b.2.2.1,AI b.2.2.2]⟩] (fun _=>by kernel_rfl) fun hc u hu=>AN hu (FM a.1 a.2.1 a.2.2.1 a.2.2.2 b.1 b.2.1 b.2.2.1 b.2.2.2 u)
           ·exact AV 127 [.tmp 94,.tmp 99] [.agg ⟨[.bool (a.1),AI a.2.1,AI a.2.2.1,AI a.2.2.2]⟩,AI (BF a.1 a.2.1 a.2.2.1 a.2.2.2 b.1 b.2.1 b.2.2.1 b.2.2.2)] (fun _=>by kernel_rfl) fun hc u hu=>AN hu (DD a.1 a.2.1 a.2.2.1 a.2.2.2 (BF a.1 a.2.1 a.2.2.1 a.2.2.2 b.1 b.2.1 b.2.2.1 b.2.2.2) u)
          refine AB xH kv [] fun w58 p4=>?_
          exact AJ p4 (2,0) (Bo (AZ a.1 a.2.1 a.2.2.1 a.2.2.2 (BF a.1 a.2.1 a.2.2.1 a.2.2.2 b.1 b.2.1 b.2.2.1 b.2.2.2))) (o _ _ ⟨by unfold C7; rw [y,c5,c8,d,g,j,l,m,n] <;> rfl,p4.B⟩)
         ·refine AB U9 t4 [] fun w59 k4=>?_
          refine AG (x.op == 15) (fun q=>?_) (fun q=>?_)
          ·refine Am 30 jJ k4 [] fun w61 f4=>?_
           refine Fk f4 [0,1,2,3,4,5,6,7,8,9] [(1,3,0),(3,3,0),(5,3,4)] [⟨6,[(96,.agg ⟨[.bool (a.1),AI a.2.1,AI a.2.2.1,AI a.2.2.2]⟩),(98,.agg ⟨[.bool (b.1),AI b.2.1,AI b.2.2.1,AI b.2.2.2]⟩)],AI (BF a.1 a.2.1 a.2.2.1 a.2.2.2 b.1 b.2.1 b.2.2.1 b.2.2.2),true⟩,⟨7,[(94,.agg ⟨[.bool (a.1),AI a.2.1,AI a.2.2.1,AI a.2.2.2]⟩),(99,AI (BF a.1 a.2.1 a.2.2.1 a.2.2.2 b.1 b.2.1 b.2.2.1 b.2.2.2))],Bo (AZ a.1 a.2.1 a.2.2.1 a.2.2.2 (BF a.1 a.2.1 a.2.2.1 a.2.2.2 b.1 b.2.1 b.2.2.1 b.2.2.2)),true⟩] [(10,2,0),(11,0,0)] f4.G (fun sp c=>?_) fun z62 w62 ks=>?_
           ·simp only [List.mem_cons,List.not_mem_nil,or_false] at c
            rcases c with rfl | rfl
            ·exact AV 128 [.tmp 96,.tmp 98] [.agg ⟨[.bool (a.1),AI a.2.1,AI a.2.2.1,AI a.2.2.2]⟩,.agg ⟨[.bool (b.1),AI b.2.1,AI b.2.2.1,AI b.2.2.2]⟩] (fun _=>by kernel_rfl) fun hc u hu=>AN hu (FM a.1 a.2.1 a.2.2.1 a.2.2.2 b.1 b.2.1 b.2.2.1 b.2.2.2 u)
            ·exact AV 127 [.tmp 94,.tmp 99] [.agg ⟨[.bool (a.1),AI a.2.1,AI a.2.2.1,AI a.2.2.2]⟩,AI (BF a.1 a.2.1 a.2.2.1 a.2.2.2 b.1 b.2.1 b.2.2.1 b.2.2.2)] (fun _=>by kernel_rfl) fun hc u hu=>AN hu (DD a.1 a.2.1 a.2.2.1 a.2.2.2 (BF a.1 a.2.1 a.2.2.1 a.2.2.2 b.1 b.2.1 b.2.2.1 b.2.2.2) u)
           refine AB xG ks [] fun w63 e4=>?_
           exact AJ e4 (2,0) (Bo (AZ a.1 a.2.1 a.2.2.1 a.2.2.2 (BF a.1 a.2.1 a.2.2.1 a.2.2.2 b.1 b.2.1 b.2.2.1 b.2.2.2))) (o _ _ ⟨by unfold C7; rw [y,c5,c8,d,g,j,l,m,n,q] <;> rfl,e4.B⟩)
          ·refine AB U8 k4 [] fun w64 c4=>?_
           refine AG (x.op == 7) (fun p=>?_) (fun p=>?_)
           ·refine AB jI c4 [] fun w66 kp=>?_
            refine AG (x.op == 7) (fun _=>?_) (fun h=>nomatch h.symm.trans p)
            refine AB jH kp [(1,0),(3,0),(3,4)] fun k7 kn=>?_
            refine AQ kn (Nh x.op a.1 a.2.1 a.2.2.1 a.2.2.2 b.1 b.2.1 b.2.2.1 b.2.2.2 k7) fun w69 kl=>?_
            refine Aj xF kl [(2,0)] fun w70 b4=>?_
            exact AJ b4 (2,0) (Ma (Fn x.op a.1 a.2.1 a.2.2.1 a.2.2.2 b.1 b.2.1 b.2.2.1 b.2.2.2)) (o _ _ ⟨by unfold C7; rw [y,c5,c8,d,g,j,l,m,n,q,p] <;> rfl,b4.B⟩)
           ·refine AB U7 c4 [] fun w71 a4=>?_
            refine AG (x.op == 8) (fun s=>?_) (fun s=>?_)
            ·refine AB jG a4 [(1,0),(3,0),(3,4)] fun f7 kd=>?_
             refine AQ kd (Nh x.op a.1 a.2.1 a.2.2.1 a.2.2.2 b.1 b.2.1 b.2.2.1 b.2.2.2 f7) fun w74 kc=>?_
             refine Aj xE kc [(2,0)] fun w75 z3=>?_
             exact AJ z3 (2,0) (Ma (Fn x.op a.1 a.2.1 a.2.2.1 a.2.2.2 b.1 b.2.1 b.2.2.1 b.2.2.2)) (o _ _ ⟨by unfold C7; rw [y,c5,c8,d,g,j,l,m,n,q,p,s] <;> rfl,z3.B⟩)
            ·refine AB U6 a4 [] fun w76 v3=>?_
             refine AG (x.op == 9) (fun r=>?_) (fun r=>?_)
             ·refine AB jF v3 [] fun w78 ka=>?_
              refine AG (x.op == 9) (fun _=>?_) (fun h=>nomatch h.symm.trans r)
              refine Am 36 jE ka [] fun w80 t3=>?_
              refine Fk t3 [0,1,2,3,4,5,6,7,8] [(0,4,0),(2,3,0),(4,3,4)] [⟨5,[(120,.agg ⟨[.bool (a.1),AI a.2.1,AI a.2.2.1,AI a.2.2.2]⟩),(122,.agg ⟨[.bool (b.1),AI b.2.1,AI b.2.2.1,AI b.2.2.2]⟩)],AI (BF a.1 a.2.1 a.2.2.1 a.2.2.2 b.1 b.2.1 b.2.2.1 b.2.2.2),true⟩,⟨6,[(118,.agg ⟨[.bool true,AI 0,AI 0,AI 0]⟩),(123,AI (BF a.1 a.2.1 a.2.2.1 a.2.2.2 b.1 b.2.1 b.2.2.1 b.2.2.2))],Bo (AZ true 0 0 0 (BF a.1 a.2.1 a.2.2.1 a.2.2.2 b.1 b.2.1 b.2.2.1 b.2.2.2)),true⟩] [(9,2,0),(10,0,0)] t3.G (fun sp c=>?_) fun z81 w81 qc=>?_
              ·simp only [List.mem_cons,List.not_mem_nil,or_false] at c
               rcases c with rfl | rfl
               ·exact AV 128 [.tmp 120,.tmp 122] [.agg ⟨[.bool (a.1),AI a.2.1,AI a.2.2.1,AI a.2.2.2]⟩,.agg ⟨[.bool (b.1),AI b.2.1,AI b.2.2.1,AI b.2.2.2]⟩] (fun _=>by kernel_rfl) fun hc u hu=>AN hu (FM a.1 a.2.1 a.2.2.1 a.2.2.2 b.1 b.2.1 b.2.2.1 b.2.2.2 u)
               ·exact AV 127 [.tmp 118,.tmp 123] [.agg ⟨[.bool true,AI 0,AI 0,AI 0]⟩,AI (BF a.1 a.2.1 a.2.2.1 a.2.2.2 b.1 b.2.1 b.2.2.1 b.2.2.2)] (fun _=>by kernel_rfl) fun hc u hu=>AN hu (DD true 0 0 0 (BF a.1 a.2.1 a.2.2.1 a.2.2.2 b.1 b.2.1 b.2.2.1 b.2.2.2) u)
              refine AB xD qc [] fun w82 r3=>?_
              exact AJ r3 (2,0) (Bo (AZ true 0 0 0 (BF a.1 a.2.1 a.2.2.1 a.2.2.2 b.1 b.2.1 b.2.2.1 b.2.2.2))) (o _ _ ⟨by unfold C7; rw [y,c5,c8,d,g,j,l,m,n,q,p,s,r] <;> rfl,r3.B⟩)
             ·refine AB U5 v3 [] fun w83 q3=>?_
              refine AG (x.op == 10) (fun b0=>?_) (fun b0=>?_)
              ·refine Am 36 jD q3 [] fun w85 p3=>?_
               refine Fk p3 [0,1,2,3,4,5,6,7,8] [(0,4,0),(2,3,0),(4,3,4)] [⟨5,[(120,.agg ⟨[.bool (a.1),AI a.2.1,AI a.2.2.1,AI a.2.2.2]⟩),(122,.agg ⟨[.bool (b.1),AI b.2.1,AI b.2.2.1,AI b.2.2.2]⟩)],AI (BF a.1 a.2.1 a.2.2.1 a.2.2.2 b.1 b.2.1 b.2.2.1 b.2.2.2),true⟩,⟨6,[(118,.agg ⟨[.bool true,AI 0,AI 0,AI 0]⟩),(123,AI (BF a.1 a.2.1 a.2.2.1 a.2.2.2 b.1 b.2.1 b.2.2.1 b.2.2.2))],Bo (AZ true 0 0 0 (BF a.1 a.2.1 a.2.2.1 a.2.2.2 b.1 b.2.1 b.2.2.1 b.2.2.2)),true⟩] [(9,2,0),(10,0,0)] p3.G (fun sp c=>?_) fun z86 w86 qb=>?_
               ·simp only [List.mem_cons,List.not_mem_nil,or_false] at c
                rcases c with rfl | rfl
                ·exact AV 128 [.tmp 120,.tmp 122] [.agg ⟨[.bool (a.1),AI a.2.1,AI a.2.2.1,AI a.2.2.2]⟩,.agg ⟨[.bool (b.1),AI b.2.1,AI b.2.2.1,AI b.2.2.2]⟩] (fun _=>by kernel_rfl) fun hc u hu=>AN hu (FM a.1 a.2.1 a.2.2.1 a.2.2.2 b.1 b.2.1 b.2.2.1 b.2.2.2 u)
                ·exact AV 127 [.tmp 118,.tmp 123] [.agg ⟨[.bool true,AI 0,AI 0,AI 0]⟩,AI (BF a.1 a.2.1 a.2.2.1 a.2.2.2 b.1 b.2.1 b.2.2.1 b.2.2.2)] (fun _=>by kernel_rfl) fun hc u hu=>AN hu (DD true 0 0 0 (BF a.1 a.2.1 a.2.2.1 a.2.2.2 b.1 b.2.1 b.2.2.1 b.2.2.2) u)
               refine AB xC qb [] fun w87 o3=>?_
               exact AJ o3 (2,0) (Bo (AZ true 0 0 0 (BF a.1 a.2.1 a.2.2.1 a.2.2.2 b.1 b.2.1 b.2.2.1 b.2.2.2))) (o _ _ ⟨by unfold C7; rw [y,c5,c8,d,g,j,l,m,n,q,p,s,r,b0] <;> rfl,o3.B⟩)
              ·refine AB U4 q3 [] fun w88 n3=>?_
               refine AG (x.op == 11) (fun e0=>?_) (fun e0=>?_)
               ·refine Am 38 jC n3 [] fun w90 m3=>?_
                refine Fk m3 [0,1,2,3,4,5,6,7,8] [(0,4,0),(2,3,0),(4,3,4)] [⟨5,[(131,.agg ⟨[.bool (a.1),AI a.2.1,AI a.2.2.1,AI a.2.2.2]⟩),(133,.agg ⟨[.bool (b.1),AI b.2.1,AI b.2.2.1,AI b.2.2.2]⟩)],AI (GA a.1 a.2.1 a.2.2.1 a.2.2.2 b.1 b.2.1 b.2.2.1 b.2.2.2),true⟩,⟨6,[(129,.agg ⟨[.bool true,AI 0,AI 0,AI 0]⟩),(134,AI (GA a.1 a.2.1 a.2.2.1 a.2.2.2 b.1 b.2.1 b.2.2.1 b.2.2.2))],Bo (AZ true 0 0 0 (GA a.1 a.2.1 a.2.2.1 a.2.2.2 b.1 b.2.1 b.2.2.1 b.2.2.2)),true⟩] [(9,2,0),(10,0,0)] m3.G (fun sp c=>?_) fun z91 w91 z9=>?_
                ·simp only [List.mem_cons,List.not_mem_nil,or_false] at c
                 rcases c with rfl | rfl
                 ·exact AV 130 [.tmp 131,.tmp 133] [.agg ⟨[.bool (a.1),AI a.2.1,AI a.2.2.1,AI a.2.2.2]⟩,.agg ⟨[.bool (b.1),AI b.2.1,AI b.2.2.1,AI b.2.2.2]⟩] (fun _=>by kernel_rfl) fun hc u hu=>AN hu (Rl a.1 a.2.1 a.2.2.1 a.2.2.2 b.1 b.2.1 b.2.2.1 b.2.2.2 u)
                 ·exact AV 127 [.tmp 129,.tmp 134] [.agg ⟨[.bool true,AI 0,AI 0,AI 0]⟩,AI (GA a.1 a.2.1 a.2.2.1 a.2.2.2 b.1 b.2.1 b.2.2.1 b.2.2.2)] (fun _=>by kernel_rfl) fun hc u hu=>AN hu (DD true 0 0 0 (GA a.1 a.2.1 a.2.2.1 a.2.2.2 b.1 b.2.1 b.2.2.1 b.2.2.2) u)
                refine AB xB z9 [] fun w92 l3=>?_
                exact AJ l3 (2,0) (Bo (AZ true 0 0 0 (GA a.1 a.2.1 a.2.2.1 a.2.2.2 b.1 b.2.1 b.2.2.1 b.2.2.2))) (o _ _ ⟨by unfold C7; rw [y,c5,c8,d,g,j,l,m,n,q,p,s,r,b0,e0] <;> rfl,l3.B⟩)
               ·refine AB U3 n3 [] fun w93 k3=>?_
                refine AG (x.op == 12) (fun d0=>?_) (fun d0=>?_)
                ·refine AB jB k3 [] fun w95 v9=>?_
                 refine AG (x.op == 12) (fun _=>?_) (fun h=>nomatch h.symm.trans d0)
                 refine Am 41 U2 v9 [] fun e1 g1=>?_
                 refine EV OB 12 ?_
                 refine Dq (md:=.any) (fuel:=2) (L:=[BV 0 [] (.agg ⟨[.bool true,AI 0,AI 0,AI 0]⟩),BV 1 [] (BY z),BV 2 [1] (.agg ⟨[.bool (a.1),AI a.2.1,AI a.2.2.1,AI a.2.2.2]⟩),BV 3 [] (.pointer (some ⟨z,4,none⟩)),BV 4 [3] (.agg ⟨[.bool (b.1),AI b.2.1,AI b.2.2.1,AI b.2.2.2]⟩),⟨5,[2,4],[5],Jk 2 4 [[.bool (a.1),AI a.2.1,AI a.2.2.1,AI a.2.2.2],[.bool (b.1),AI b.2.1,AI b.2.2.1,AI b.2.2.2]]⟩,BV 6 [5] (AI (Aw [(a.1,a.2.1,a.2.2.1,a.2.2.2),(b.1,b.2.1,b.2.2.1,b.2.2.2)])),BV 7 [0,6] (Bo (AZ true 0 0 0 (Aw [(a.1,a.2.1,a.2.2.1,a.2.2.2),(b.1,b.2.1,b.2.2.1,b.2.2.2)]))),BV 8 [7] (.agg ⟨[.bool ((AZ true 0 0 0 (Aw [(a.1,a.2.1,a.2.2.1,a.2.2.2),(b.1,b.2.1,b.2.2.1,b.2.2.2)])).1),AI ((AZ true 0 0 0 (Aw [(a.1,a.2.1,a.2.2.1,a.2.2.2),(b.1,b.2.1,b.2.2.1,b.2.2.2)])).2.1),AI ((AZ true 0 0 0 (Aw [(a.1,a.2.1,a.2.2.1,a.2.2.2),(b.1,b.2.1,b.2.2.1,b.2.2.2)])).2.2.1),AI ((AZ true 0 0 0 (Aw [(a.1,a.2.1,a.2.2.1,a.2.2.2),(b.1,b.2.1,b.2.2.1,b.2.2.2)])).2.2.2.1)]⟩),BV 9 [7] (AI ((AZ true 0 0 0 (Aw [(a.1,a.2.1,a.2.2.1,a.2.2.2),(b.1,b.2.1,b.2.2.1,b.2.2.2)])).2.2.2.2))]) (W:=s5) (C:=fun u=>Below e1.heap.size e1 u) (Ext:=FW) (Below.refl _ _).drew FW.refl (fun _ _ _=>FW.trans) ⟨?_,?_,?_,?_,?_,?_,?_,?_,?_,?_,trivial⟩ rfl ?_
                 ·refine ⟨fun _ _ _ _ _ h=>h,fun vals u hu hb=>?_⟩
                  exact AM.knownE [] trivial (AM.reads ⟨0,_,(4,0),[]⟩ (CB g1.G hu) (.agg ⟨[.bool true,AI 0,AI 0,AI 0]⟩) ⟨hu,.refl _,rfl⟩)
                 ·refine ⟨fun _ _ _ _ _ h=>h,fun vals u hu hb=>?_⟩
                  exact AM.knownE [] trivial (AM.reads ⟨0,[],(0,0),[]⟩ (fun e he=>by cases he) (BY z) ⟨hu,.refl _,rfl⟩)
                 ·refine ⟨fun _ _ _ _ _ h=>h,fun vals u hu hb=>?_⟩
                  obtain ⟨h1,_⟩:=hb
                  exact AM.knownE [(142,1,BY z)] ⟨(List.cons.inj h1).1,trivial⟩ (AM.reads ⟨0,_,(3,0),[]⟩ (CB g1.G hu) (.agg ⟨[.bool (a.1),AI a.2.1,AI a.2.2.1,AI a.2.2.2]⟩) ⟨hu,.refl _,rfl⟩)
                 ·refine ⟨fun _ _ _ _ _ h=>h,fun vals u hu hb=>?_⟩
                  exact AM.knownE [] trivial (AM.reads ⟨0,[],(0,0),[]⟩ (fun e he=>by cases he) (.pointer (some ⟨z,4,none⟩)) ⟨hu,.refl _,rfl⟩)
                 ·refine ⟨fun _ _ _ _ _ h=>h,fun vals u hu hb=>?_⟩
                  obtain ⟨h3,_⟩:=hb
                  exact AM.knownE [(144,3,.pointer (some ⟨z,4,none⟩))] ⟨(List.cons.inj h3).1,trivial⟩ (AM.reads ⟨0,_,(3,4),[]⟩ (CB g1.G hu) (.agg ⟨[.bool (b.1),AI b.2.1,AI b.2.2.1,AI b.2.2.2]⟩) ⟨hu,.refl _,rfl⟩)
                 ·refine ⟨fun _ _ _ _ he h=>h.keep he,fun vals u hu hb=>?_⟩
                  obtain ⟨h2,h4,_⟩:=hb
                  refine AM.knownE [(143,2,.agg ⟨[.bool (a.1),AI a.2.1,AI a.2.2.1,AI a.2.2.2]⟩),(145,4,.agg ⟨[.bool (b.1),AI b.2.1,AI b.2.2.1,AI b.2.2.2]⟩)] ⟨(List.cons.inj h2).1,(List.cons.inj h4).1,trivial⟩ (AM.runsK ⟨u.heap.size,[],(0,0),[]⟩ ⟨u.heap.size + 1,[⟨u.heap.size,0,[.bool (a.1),AI a.2.1,AI a.2.2.1,AI a.2.2.2,.bool (b.1),AI b.2.1,AI b.2.2.1,AI b.2.2.2],56,true⟩],(0,0),[]⟩ (.value (.slice (IN u.heap.size) 2 2)) (.slice (IN u.heap.size) 2 2) (.inl rfl) (CH u) rfl fun u2 hL hK=>?_)
                  have Bq:Below u.heap.size u u2:=hK.below (Nat.le_refl _) (fun k o=>by cases o)
                  exact ⟨hu.trans (Bq.mono hu.size),Bq,⟨_,rfl,C8 (rs:=[[.bool (a.1),AI a.2.1,AI a.2.2.1,AI a.2.2.2],[.bool (b.1),AI b.2.1,AI b.2.2.1,AI b.2.2.2]]) (by simp) (hL.sat.good _ (List.mem_singleton.2 rfl))⟩⟩
                 ·refine ⟨fun _ _ _ _ _ h=>h,fun vals u hu hb=>?_⟩
                  obtain ⟨h5,_⟩:=hb
                  obtain ⟨l0,w0,r1⟩:=h5
                  refine AM.knownE [(146,5,.slice (IN l0) 2 2)] ⟨(List.cons.inj w0).1,trivial⟩ (AM.call (f:=131) [.tmp 146] (args:=[.slice (IN l0) 2 2]) (ats:=#[66]) rfl (CG _ _) ((Kb (IN l0) [(a.1,a.2.1,a.2.2.1,a.2.2.2),(b.1,b.2.1,b.2.2.1,b.2.2.2)] 2 u r1 (by first | assumption | omega | (simp <;> omega))).mono fun en u2 hh=>?_))
                  obtain ⟨rfl,bb⟩:=hh
                  exact ⟨_,rfl,hu.trans (bb.mono hu.size),bb,rfl⟩
                 ·refine ⟨fun _ _ _ _ _ h=>h,fun vals u hu hb=>?_⟩
                  obtain ⟨h0,h6,_⟩:=hb
                  refine AM.knownE [(141,0,.agg ⟨[.bool true,AI 0,AI 0,AI 0]⟩),(147,6,AI (Aw [(a.1,a.2.1,a.2.2.1,a.2.2.2),(b.1,b.2.1,b.2.2.1,b.2.2.2)]))] ⟨(List.cons.inj h0).1,(List.cons.inj h6).1,trivial⟩ (AM.call (f:=127) [.tmp 141,.tmp 147] (args:=[.agg ⟨[.bool true,AI 0,AI 0,AI 0]⟩,AI (Aw [(a.1,a.2.1,a.2.2.1,a.2.2.2),(b.1,b.2.1,b.2.2.1,b.2.2.2)])]) (ats:=#[56,30]) rfl (CG _ _) ((DD true 0 0 0 (Aw [(a.1,a.2.1,a.2.2.1,a.2.2.2),(b.1,b.2.1,b.2.2.1,b.2.2.2)]) u).mono fun en u2 hh=>?_))
                  obtain ⟨rfl,bb⟩:=hh
                  exact ⟨_,rfl,hu.trans (bb.mono hu.size),bb,rfl⟩
                 ·refine ⟨fun _ _ _ _ _ h=>h,fun vals u hu hb=>?_⟩
                  obtain ⟨h7,_⟩:=hb
                  exact AM.knownE [(148,7,Bo (AZ true 0 0 0 (Aw [(a.1,a.2.1,a.2.2.1,a.2.2.2),(b.1,b.2.1,b.2.2.1,b.2.2.2)])))] ⟨(List.cons.inj h7).1,trivial⟩ (AM.reads ⟨0,[],(0,0),[]⟩ (fun e he=>by cases he) (.agg ⟨[.bool ((AZ true 0 0 0 (Aw [(a.1,a.2.1,a.2.2.1,a.2.2.2),(b.1,b.2.1,b.2.2.1,b.2.2.2)])).1),AI ((AZ true 0 0 0 (Aw [(a.1,a.2.1,a.2.2.1,a.2.2.2),(b.1,b.2.1,b.2.2.1,b.2.2.2)])).2.1),AI ((AZ true 0 0 0 (Aw [(a.1,a.2.1,a.2.2.1,a.2.2.2),(b.1,b.2.1,b.2.2.1,b.2.2.2)])).2.2.1),AI ((AZ true 0 0 0 (Aw [(a.1,a.2.1,a.2.2.1,a.2.2.2),(b.1,b.2.1,b.2.2.1,b.2.2.2)])).2.2.2.1)]⟩) ⟨hu,.refl _,rfl⟩)
                 ·refine ⟨fun _ _ _ _ _ h=>h,fun vals u hu hb=>?_⟩
                  obtain ⟨h7,_⟩:=hb
                  exact AM.knownE [(148,7,Bo (AZ true 0 0 0 (Aw [(a.1,a.2.1,a.2.2.1,a.2.2.2),(b.1,b.2.1,b.2.2.1,b.2.2.2)])))] ⟨(List.cons.inj h7).1,trivial⟩ (AM.reads ⟨0,[],(0,0),[]⟩ (fun e he=>by cases he) (AI ((AZ true 0 0 0 (Aw [(a.1,a.2.1,a.2.2.1,a.2.2.2),(b.1,b.2.1,b.2.2.1,b.2.2.2)])).2.2.2.2)) ⟨hu,.refl _,rfl⟩)
                 intro vals c7 v1 _ a0
                 replace v1:Below e1.heap.size e1 c7:=v1
                 obtain ⟨x0,x1,x2,x3,x4,x5,x6,x7,x8,x9,_⟩:=a0
                 have t9:=g1.below v1
                 refine CI [(4,BY g4),(149,vals 8),(150,vals 9)] fun E98=>?_
                 rw [show vals 8=.agg ⟨[.bool ((AZ true 0 0 0 (Aw [(a.1,a.2.1,a.2.2.1,a.2.2.2),(b.1,b.2.1,b.2.2.1,b.2.2.2)])).1),AI ((AZ true 0 0 0 (Aw [(a.1,a.2.1,a.2.2.1,a.2.2.2),(b.1,b.2.1,b.2.2.1,b.2.2.2)])).2.1),AI ((AZ true 0 0 0 (Aw [(a.1,a.2.1,a.2.2.1,a.2.2.2),(b.1,b.2.1,b.2.2.1,b.2.2.2)])).2.2.1),AI ((AZ true 0 0 0 (Aw [(a.1,a.2.1,a.2.2.1,a.2.2.2),(b.1,b.2.1,b.2.2.1,b.2.2.2)])).2.2.2.1)]⟩ from (List.cons.inj x8).1]
                 rw [show vals 9=AI ((AZ true 0 0 0 (Aw [(a.1,a.2.1,a.2.2.1,a.2.2.2),(b.1,b.2.1,b.2.2.1,b.2.2.2)])).2.2.2.2) from (List.cons.inj x9).1]
                 refine Fq (i:=10) t9 (OB.getD 10 default) (2,0) (undef) fun w99 r9=>?_
                 refine Fq (i:=11) r9 (OB.getD 11 default) (0,0) (AI ((AZ true 0 0 0 (Aw [(a.1,a.2.1,a.2.2.1,a.2.2.2),(b.1,b.2.1,b.2.2.1,b.2.2.2)])).2.2.2.2)) fun w100 q9=>?_
                 refine Em ⟨rfl,At.mid ?_⟩
                 refine AB xA q9 [] fun w101 i3=>?_
                 exact AJ i3 (2,0) (Bo (AZ true 0 0 0 (Aw [(a.1,a.2.1,a.2.2.1,a.2.2.2),(b.1,b.2.1,b.2.2.1,b.2.2.2)]))) (o _ _ ⟨by unfold C7; rw [y,c5,c8,d,g,j,l,m,n,q,p,s,r,b0,e0,d0] <;> rfl,i3.B⟩)
                ·refine AB U1 k3 [] fun w102 f3=>?_
                 refine AG (x.op == 13) (fun v=>?_) (fun v=>?_)
                 ·refine Am 41 U0 f3 [] fun p0 f1=>?_
                  refine EV Lj 12 ?_
                  refine Dq (md:=.any) (fuel:=2) (L:=[BV 0 [] (.agg ⟨[.bool true,AI 0,AI 0,AI 0]⟩),BV 1 [] (BY z),BV 2 [1] (.agg ⟨[.bool (a.1),AI a.2.1,AI a.2.2.1,AI a.2.2.2]⟩),BV 3 [] (.pointer (some ⟨z,4,none⟩)),BV 4 [3] (.agg ⟨[.bool (b.1),AI b.2.1,AI b.2.2.1,AI b.2.2.2]⟩),⟨5,[2,4],[5],Jk 2 4 [[.bool (a.1),AI a.2.1,AI a.2.2.1,AI a.2.2.2],[.bool (b.1),AI b.2.1,AI b.2.2.1,AI b.2.2.2]]⟩,BV 6 [5] (AI (Aw [(a.1,a.2.1,a.2.2.1,a.2.2.2),(b.1,b.2.1,b.2.2.1,b.2.2.2)])),BV 7 [0,6] (Bo (AZ true 0 0 0 (Aw [(a.1,a.2.1,a.2.2.1,a.2.2.2),(b.1,b.2.1,b.2.2.1,b.2.2.2)]))),BV 8 [7] (.agg ⟨[.bool ((AZ true 0 0 0 (Aw [(a.1,a.2.1,a.2.2.1,a.2.2.2),(b.1,b.2.1,b.2.2.1,b.2.2.2)])).1),AI ((AZ true 0 0 0 (Aw [(a.1,a.2.1,a.2.2.1,a.2.2.2),(b.1,b.2.1,b.2.2.1,b.2.2.2)])).2.1),AI ((AZ true 0 0 0 (Aw [(a.1,a.2.1,a.2.2.1,a.2.2.2),(b.1,b.2.1,b.2.2.1,b.2.2.2)])).2.2.1),AI ((AZ true 0 0 0 (Aw [(a.1,a.2.1,a.2.2.1,a.2.2.2),(b.1,b.2.1,b.2.2.1,b.2.2.2)])).2.2.2.1)]⟩),BV 9 [7] (AI ((AZ true 0 0 0 (Aw [(a.1,a.2.1,a.2.2.1,a.2.2.2),(b.1,b.2.1,b.2.2.1,b.2.2.2)])).2.2.2.2))]) (W:=eS) (C:=fun u=>Below p0.heap.size p0 u) (Ext:=FW) (Below.refl _ _).drew FW.refl (fun _ _ _=>FW.trans) ⟨?_,?_,?_,?_,?_,?_,?_,?_,?_,?_,trivial⟩ rfl ?_
                  ·refine ⟨fun _ _ _ _ _ h=>h,fun vals u hu hb=>?_⟩
                   exact AM.knownE [] trivial (AM.reads ⟨0,_,(4,0),[]⟩ (CB f1.G hu) (.agg ⟨[.bool true,AI 0,AI 0,AI 0]⟩) ⟨hu,.refl _,rfl⟩)
                  ·refine ⟨fun _ _ _ _ _ h=>h,fun vals u hu hb=>?_⟩
                   exact AM.knownE [] trivial (AM.reads ⟨0,[],(0,0),[]⟩ (fun e he=>by cases he) (BY z) ⟨hu,.refl _,rfl⟩)
                  ·refine ⟨fun _ _ _ _ _ h=>h,fun vals u hu hb=>?_⟩
                   obtain ⟨h1,_⟩:=hb
                   exact AM.knownE [(142,1,BY z)] ⟨(List.cons.inj h1).1,trivial⟩ (AM.reads ⟨0,_,(3,0),[]⟩ (CB f1.G hu) (.agg ⟨[.bool (a.1),AI a.2.1,AI a.2.2.1,AI a.2.2.2]⟩) ⟨hu,.refl _,rfl⟩)
                  ·refine ⟨fun _ _ _ _ _ h=>h,fun vals u hu hb=>?_⟩
                   exact AM.knownE [] trivial (AM.reads ⟨0,[],(0,0),[]⟩ (fun e he=>by cases he) (.pointer (some ⟨z,4,none⟩)) ⟨hu,.refl _,rfl⟩)
                  ·refine ⟨fun _ _ _ _ _ h=>h,fun vals u hu hb=>?_⟩
                   obtain ⟨h3,_⟩:=hb
                   exact AM.knownE [(144,3,.pointer (some ⟨z,4,none⟩))] ⟨(List.cons.inj h3).1,trivial⟩ (AM.reads ⟨0,_,(3,4),[]⟩ (CB f1.G hu) (.agg ⟨[.bool (b.1),AI b.2.1,AI b.2.2.1,AI b.2.2.2]⟩) ⟨hu,.refl _,rfl⟩)
                  ·refine ⟨fun _ _ _ _ he h=>h.keep he,fun vals u hu hb=>?_⟩
                   obtain ⟨h2,h4,_⟩:=hb
                   refine AM.knownE [(143,2,.agg ⟨[.bool (a.1),AI a.2.1,AI a.2.2.1,AI a.2.2.2]⟩),(145,4,.agg ⟨[.bool (b.1),AI b.2.1,AI b.2.2.1,AI b.2.2.2]⟩)] ⟨(List.cons.inj h2).1,(List.cons.inj h4).1,trivial⟩ (AM.runsK ⟨u.heap.size,[],(0,0),[]⟩ ⟨u.heap.size + 1,[⟨u.heap.size,0,[.bool (a.1),AI a.2.1,AI a.2.2.1,AI a.2.2.2,.bool (b.1),AI b.2.1,AI b.2.2.1,AI b.2.2.2],56,true⟩],(0,0),[]⟩ (.value (.slice (IN u.heap.size) 2 2)) (.slice (IN u.heap.size) 2 2) (.inl rfl) (CH u) rfl fun u2 hL hK=>?_)
                   have Bq:Below u.heap.size u u2:=hK.below (Nat.le_refl _) (fun k o=>by cases o)
                   exact ⟨hu.trans (Bq.mono hu.size),Bq,⟨_,rfl,C8 (rs:=[[.bool (a.1),AI a.2.1,AI a.2.2.1,AI a.2.2.2],[.bool (b.1),AI b.2.1,AI b.2.2.1,AI b.2.2.2]]) (by simp) (hL.sat.good _ (List.mem_singleton.2 rfl))⟩⟩
                  ·refine ⟨fun _ _ _ _ _ h=>h,fun vals u hu hb=>?_⟩
                   obtain ⟨h5,_⟩:=hb
                   obtain ⟨l0,w0,r1⟩:=h5
                   refine AM.knownE [(146,5,.slice (IN l0) 2 2)] ⟨(List.cons.inj w0).1,trivial⟩ (AM.call (f:=131) [.tmp 146] (args:=[.slice (IN l0) 2 2]) (ats:=#[66]) rfl (CG _ _) ((Kb (IN l0) [(a.1,a.2.1,a.2.2.1,a.2.2.2),(b.1,b.2.1,b.2.2.1,b.2.2.2)] 2 u r1 (by first | assumption | omega | (simp <;> omega))).mono fun en u2 hh=>?_))
                   obtain ⟨rfl,bb⟩:=hh
                   exact ⟨_,rfl,hu.trans (bb.mono hu.size),bb,rfl⟩
                  ·refine ⟨fun _ _ _ _ _ h=>h,fun vals u hu hb=>?_⟩
                   obtain ⟨h0,h6,_⟩:=hb
                   refine AM.knownE [(141,0,.agg ⟨[.bool true,AI 0,AI 0,AI 0]⟩),(147,6,AI (Aw [(a.1,a.2.1,a.2.2.1,a.2.2.2),(b.1,b.2.1,b.2.2.1,b.2.2.2)]))] ⟨(List.cons.inj h0).1,(List.cons.inj h6).1,trivial⟩ (AM.call (f:=127) [.tmp 141,.tmp 147] (args:=[.agg ⟨[.bool true,AI 0,AI 0,AI 0]⟩,AI (Aw [(a.1,a.2.1,a.2.2.1,a.2.2.2),(b.1,b.2.1,b.2.2.1,b.2.2.2)])]) (ats:=#[56,30]) rfl (CG _ _) ((DD true 0 0 0 (Aw [(a.1,a.2.1,a.2.2.1,a.2.2.2),(b.1,b.2.1,b.2.2.1,b.2.2.2)]) u).mono fun en u2 hh=>?_))
                   obtain ⟨rfl,bb⟩:=hh
                   exact ⟨_,rfl,hu.trans (bb.mono hu.size),bb,rfl⟩
                  ·refine ⟨fun _ _ _ _ _ h=>h,fun vals u hu hb=>?_⟩
                   obtain ⟨h7,_⟩:=hb
                   exact AM.knownE [(148,7,Bo (AZ true 0 0 0 (Aw [(a.1,a.2.1,a.2.2.1,a.2.2.2),(b.1,b.2.1,b.2.2.1,b.2.2.2)])))] ⟨(List.cons.inj h7).1,trivial⟩ (AM.reads ⟨0,[],(0,0),[]⟩ (fun e he=>by cases he) (.agg ⟨[.bool ((AZ true 0 0 0 (Aw [(a.1,a.2.1,a.2.2.1,a.2.2.2),(b.1,b.2.1,b.2.2.1,b.2.2.2)])).1),AI ((AZ true 0 0 0 (Aw [(a.1,a.2.1,a.2.2.1,a.2.2.2),(b.1,b.2.1,b.2.2.1,b.2.2.2)])).2.1),AI ((AZ true 0 0 0 (Aw [(a.1,a.2.1,a.2.2.1,a.2.2.2),(b.1,b.2.1,b.2.2.1,b.2.2.2)])).2.2.1),AI ((AZ true 0 0 0 (Aw [(a.1,a.2.1,a.2.2.1,a.2.2.2),(b.1,b.2.1,b.2.2.1,b.2.2.2)])).2.2.2.1)]⟩) ⟨hu,.refl _,rfl⟩)
                  ·refine ⟨fun _ _ _ _ _ h=>h,fun vals u hu hb=>?_⟩
                   obtain ⟨h7,_⟩:=hb
                   exact AM.knownE [(148,7,Bo (AZ true 0 0 0 (Aw [(a.1,a.2.1,a.2.2.1,a.2.2.2),(b.1,b.2.1,b.2.2.1,b.2.2.2)])))] ⟨(List.cons.inj h7).1,trivial⟩ (AM.reads ⟨0,[],(0,0),[]⟩ (fun e he=>by cases he) (AI ((AZ true 0 0 0 (Aw [(a.1,a.2.1,a.2.2.1,a.2.2.2),(b.1,b.2.1,b.2.2.1,b.2.2.2)])).2.2.2.2)) ⟨hu,.refl _,rfl⟩)
                  intro vals o2 d1 _ a0
                  replace d1:Below p0.heap.size p0 o2:=d1
                  obtain ⟨x0,x1,x2,x3,x4,x5,x6,x7,x8,x9,_⟩:=a0
                  have o9:=f1.below d1
                  refine CI [(4,BY g4),(149,vals 8),(150,vals 9)] fun E105=>?_
                  rw [show vals 8=.agg ⟨[.bool ((AZ true 0 0 0 (Aw [(a.1,a.2.1,a.2.2.1,a.2.2.2),(b.1,b.2.1,b.2.2.1,b.2.2.2)])).1),AI ((AZ true 0 0 0 (Aw [(a.1,a.2.1,a.2.2.1,a.2.2.2),(b.1,b.2.1,b.2.2.1,b.2.2.2)])).2.1),AI ((AZ true 0 0 0 (Aw [(a.1,a.2.1,a.2.2.1,a.2.2.2),(b.1,b.2.1,b.2.2.1,b.2.2.2)])).2.2.1),AI ((AZ true 0 0 0 (Aw [(a.1,a.2.1,a.2.2.1,a.2.2.2),(b.1,b.2.1,b.2.2.1,b.2.2.2)])).2.2.2.1)]⟩ from (List.cons.inj x8).1]
                  rw [show vals 9=AI ((AZ true 0 0 0 (Aw [(a.1,a.2.1,a.2.2.1,a.2.2.2),(b.1,b.2.1,b.2.2.1,b.2.2.2)])).2.2.2.2) from (List.cons.inj x9).1]
                  refine Fq (i:=10) o9 (Lj.getD 10 default) (2,0) (undef) fun w106 n9=>?_
                  refine Fq (i:=11) n9 (Lj.getD 11 default) (0,0) (AI ((AZ true 0 0 0 (Aw [(a.1,a.2.1,a.2.2.1,a.2.2.2),(b.1,b.2.1,b.2.2.1,b.2.2.2)])).2.2.2.2)) fun w107 k9=>?_
                  refine Em ⟨rfl,At.mid ?_⟩
                  refine AB ww k9 [] fun w108 e3=>?_
                  exact AJ e3 (2,0) (Bo (AZ true 0 0 0 (Aw [(a.1,a.2.1,a.2.2.1,a.2.2.2),(b.1,b.2.1,b.2.2.1,b.2.2.2)]))) (o _ _ ⟨by unfold C7; rw [y,c5,c8,d,g,j,l,m,n,q,p,s,r,b0,e0,d0,v] <;> rfl,e3.B⟩)
                 ·refine AB Uz f3 [] fun w109 c3=>?_
                  refine AG (x.op == 17) (fun c0=>?_) (fun c0=>?_)
                  ·refine Am 43 Uy c3 [] fun n0 a2=>?_
                   refine EV OA 10 ?_
                   refine Dq (md:=.any) (fuel:=2) (L:=[BV 0 [] (.agg ⟨[.bool true,AI 0,AI 0,AI 0]⟩),BV 1 [] (BY z),BV 2 [1] (.agg ⟨[.bool (a.1),AI a.2.1,AI a.2.2.1,AI a.2.2.2]⟩),⟨3,[2],[3],Jk 1 4 [[.bool (a.1),AI a.2.1,AI a.2.2.1,AI a.2.2.2]]⟩,BV 4 [3] (AI (Aw [(a.1,a.2.1,a.2.2.1,a.2.2.2)])),BV 5 [0,4] (Bo (AZ true 0 0 0 (Aw [(a.1,a.2.1,a.2.2.1,a.2.2.2)]))),BV 6 [5] (.agg ⟨[.bool ((AZ true 0 0 0 (Aw [(a.1,a.2.1,a.2.2.1,a.2.2.2)])).1),AI ((AZ true 0 0 0 (Aw [(a.1,a.2.1,a.2.2.1,a.2.2.2)])).2.1),AI ((AZ true 0 0 0 (Aw [(a.1,a.2.1,a.2.2.1,a.2.2.2)])).2.2.1),AI ((AZ true 0 0 0 (Aw [(a.1,a.2.1,a.2.2.1,a.2.2.2)])).2.2.2.1)]⟩),BV 7 [5] (AI ((AZ true 0 0 0 (Aw [(a.1,a.2.1,a.2.2.1,a.2.2.2)])).2.2.2.2))]) (W:=s4) (C:=fun u=>Below n0.heap.size n0 u) (Ext:=FW) (Below.refl _ _).drew FW.refl (fun _ _ _=>FW.trans) ⟨?_,?_,?_,?_,?_,?_,?_,?_,trivial⟩ rfl ?_
                   ·refine ⟨fun _ _ _ _ _ h=>h,fun vals u hu hb=>?_⟩
                    exact AM.knownE [] trivial (AM.reads ⟨0,_,(4,0),[]⟩ (CB a2.G hu) (.agg ⟨[.bool true,AI 0,AI 0,AI 0]⟩) ⟨hu,.refl _,rfl⟩)
                   ·refine ⟨fun _ _ _ _ _ h=>h,fun vals u hu hb=>?_⟩
                    exact AM.knownE [] trivial (AM.reads ⟨0,[],(0,0),[]⟩ (fun e he=>by cases he) (BY z) ⟨hu,.refl _,rfl⟩)
                   ·refine ⟨fun _ _ _ _ _ h=>h,fun vals u hu hb=>?_⟩
                    obtain ⟨h1,_⟩:=hb
                    exact AM.knownE [(154,1,BY z)] ⟨(List.cons.inj h1).1,trivial⟩ (AM.reads ⟨0,_,(3,0),[]⟩ (CB a2.G hu) (.agg ⟨[.bool (a.1),AI a.2.1,AI a.2.2.1,AI a.2.2.2]⟩) ⟨hu,.refl _,rfl⟩)
                   ·refine ⟨fun _ _ _ _ he h=>h.keep he,fun vals u hu hb=>?_⟩
                    obtain ⟨h2,_⟩:=hb
                    refine AM.knownE [(155,2,.agg ⟨[.bool (a.1),AI a.2.1,AI a.2.2.1,AI a.2.2.2]⟩)] ⟨(List.cons.inj h2).1,trivial⟩ (AM.runsK ⟨u.heap.size,[],(0,0),[]⟩ ⟨u.heap.size + 1,[⟨u.heap.size,0,[.bool (a.1),AI a.2.1,AI a.2.2.1,AI a.2.2.2],56,true⟩],(0,0),[]⟩ (.value (.slice (IN u.heap.size) 1 1)) (.slice (IN u.heap.size) 1 1) (.inl rfl) (CH u) rfl fun u2 hL hK=>?_)
                    have Bq:Below u.heap.size u u2:=hK.below (Nat.le_refl _) (fun k o=>by cases o)
                    exact ⟨hu.trans (Bq.mono hu.size),Bq,⟨_,rfl,C8 (rs:=[[.bool (a.1),AI a.2.1,AI a.2.2.1,AI a.2.2.2]]) (by simp) (hL.sat.good _ (List.mem_singleton.2 rfl))⟩⟩
                   ·refine ⟨fun _ _ _ _ _ h=>h,fun vals u hu hb=>?_⟩
                    obtain ⟨h3,_⟩:=hb
                    obtain ⟨t1,q2,k8⟩:=h3
                    refine AM.knownE [(156,3,.slice (IN t1) 1 1)] ⟨(List.cons.inj q2).1,trivial⟩ (AM.call (f:=131) [.tmp 156] (args:=[.slice (IN t1) 1 1]) (ats:=#[66]) rfl (CG _ _) ((Kb (IN t1) [(a.1,a.2.1,a.2.2.1,a.2.2.2)] 1 u k8 (by first | assumption | omega | (simp <;> omega))).mono fun en u2 hh=>?_))
                    obtain ⟨rfl,bb⟩:=hh
                    exact ⟨_,rfl,hu.trans (bb.mono hu.size),bb,rfl⟩
                   ·refine ⟨fun _ _ _ _ _ h=>h,fun vals u hu hb=>?_⟩
                    obtain ⟨h0,h4,_⟩:=hb
                    refine AM.knownE [(153,0,.agg ⟨[.bool true,AI 0,AI 0,AI 0]⟩),(157,4,AI (Aw [(a.1,a.2.1,a.2.2.1,a.2.2.2)]))] ⟨(List.cons.inj h0).1,(List.cons.inj h4).1,trivial⟩ (AM.call (f:=127) [.tmp 153,.tmp 157] (args:=[.agg ⟨[.bool true,AI 0,AI 0,AI 0]⟩,AI (Aw [(a.1,a.2.1,a.2.2.1,a.2.2.2)])]) (ats:=#[56,30]) rfl (CG _ _) ((DD true 0 0 0 (Aw [(a.1,a.2.1,a.2.2.1,a.2.2.2)]) u).mono fun en u2 hh=>?_))
                    obtain ⟨rfl,bb⟩:=hh
                    exact ⟨_,rfl,hu.trans (bb.mono hu.size),bb,rfl⟩
                   ·refine ⟨fun _ _ _ _ _ h=>h,fun vals u hu hb=>?_⟩
                    obtain ⟨h5,_⟩:=hb
                    exact AM.knownE [(158,5,Bo (AZ true 0 0 0 (Aw [(a.1,a.2.1,a.2.2.1,a.2.2.2)])))] ⟨(List.cons.inj h5).1,trivial⟩ (AM.reads ⟨0,[],(0,0),[]⟩ (fun e he=>by cases he) (.agg ⟨[.bool ((AZ true 0 0 0 (Aw [(a.1,a.2.1,a.2.2.1,a.2.2.2)])).1),AI ((AZ true 0 0 0 (Aw [(a.1,a.2.1,a.2.2.1,a.2.2.2)])).2.1),AI ((AZ true 0 0 0 (Aw [(a.1,a.2.1,a.2.2.1,a.2.2.2)])).2.2.1),AI ((AZ true 0 0 0 (Aw [(a.1,a.2.1,a.2.2.1,a.2.2.2)])).2.2.2.1)]⟩) ⟨hu,.refl _,rfl⟩)
                   ·refine ⟨fun _ _ _ _ _ h=>h,fun vals u hu hb=>?_⟩
                    obtain ⟨h5,_⟩:=hb
                    exact AM.knownE [(158,5,Bo (AZ true 0 0 0 (Aw [(a.1,a.2.1,a.2.2.1,a.2.2.2)])))] ⟨(List.cons.inj h5).1,trivial⟩ (AM.reads ⟨0,[],(0,0),[]⟩ (fun e he=>by cases he) (AI ((AZ true 0 0 0 (Aw [(a.1,a.2.1,a.2.2.1,a.2.2.2)])).2.2.2.2)) ⟨hu,.refl _,rfl⟩)
                   intro vals n2 c1 _ a0
                   replace c1:Below n0.heap.size n0 n2:=c1
                   obtain ⟨x0,x1,x2,x3,x4,x5,x6,x7,_⟩:=a0
                   have h9:=a2.below c1
                   refine CI [(4,BY g4),(159,vals 6),(160,vals 7)] fun E112=>?_
                   rw [show vals 6=.agg ⟨[.bool ((AZ true 0 0 0 (Aw [(a.1,a.2.1,a.2.2.1,a.2.2.2)])).1),AI ((AZ true 0 0 0 (Aw [(a.1,a.2.1,a.2.2.1,a.2.2.2)])).2.1),AI ((AZ true 0 0 0 (Aw [(a.1,a.2.1,a.2.2.1,a.2.2.2)])).2.2.1),AI ((AZ true 0 0 0 (Aw [(a.1,a.2.1,a.2.2.1,a.2.2.2)])).2.2.2.1)]⟩ from (List.cons.inj x6).1]
                   rw [show vals 7=AI ((AZ true 0 0 0 (Aw [(a.1,a.2.1,a.2.2.1,a.2.2.2)])).2.2.2.2) from (List.cons.inj x7).1]
                   refine Fq (i:=8) h9 (OA.getD 8 default) (2,0) (undef) fun w113 g9=>?_
                   refine Fq (i:=9) g9 (OA.getD 9 default) (0,0) (AI ((AZ true 0 0 0 (Aw [(a.1,a.2.1,a.2.2.1,a.2.2.2)])).2.2.2.2)) fun w114 f9=>?_
                   refine Em ⟨rfl,At.mid ?_⟩
                   refine AB wv f9 [] fun w115 b3=>?_
                   exact AJ b3 (2,0) (Bo (AZ true 0 0 0 (Aw [(a.1,a.2.1,a.2.2.1,a.2.2.2)]))) (o _ _ ⟨by unfold C7; rw [y,c5,c8,d,g,j,l,m,n,q,p,s,r,b0,e0,d0,v,c0] <;> rfl,b3.B⟩)
                  ·refine AB Ux c3 [] fun w116 a3=>?_
                   refine AG (x.op == 16) (fun g0=>?_) (fun g0=>?_)
                   ·refine Am 45 Uw a3 [] fun m0 z1=>?_
                    refine EV N9 11 ?_
                    refine Dq (md:=.any) (fuel:=2) (L:=[BV 0 [] (BY z),BV 1 [0] (.agg ⟨[.bool (a.1),AI a.2.1,AI a.2.2.1,AI a.2.2.2]⟩),BV 2 [] (BY z),BV 3 [2] (.agg ⟨[.bool (a.1),AI a.2.1,AI a.2.2.1,AI a.2.2.2]⟩),⟨4,[3],[4],Jk 1 4 [[.bool (a.1),AI a.2.1,AI a.2.2.1,AI a.2.2.2]]⟩,BV 5 [4] (AI (CC [(a.1,a.2.1,a.2.2.1,a.2.2.2)])),BV 6 [1,5] (Bo (AZ a.1 a.2.1 a.2.2.1 a.2.2.2 (CC [(a.1,a.2.1,a.2.2.1,a.2.2.2)]))),BV 7 [6] (.agg ⟨[.bool ((AZ a.1 a.2.1 a.2.2.1 a.2.2.2 (CC [(a.1,a.2.1,a.2.2.1,a.2.2.2)])).1),AI ((AZ a.1 a.2.1 a.2.2.1 a.2.2.2 (CC [(a.1,a.2.1,a.2.2.1,a.2.2.2)])).2.1),AI ((AZ a.1 a.2.1 a.2.2.1 a.2.2.2 (CC [(a.1,a.2.1,a.2.2.1,a.2.2.2)])).2.2.1),AI ((AZ a.1 a.2.1 a.2.2.1 a.2.2.2 (CC [(a.1,a.2.1,a.2.2.1,a.2.2.2)])).2.2.2.1)]⟩),BV 8 [6] (AI ((AZ a.1 a.2.1 a.2.2.1 a.2.2.2 (CC [(a.1,a.2.1,a.2.2.1,a.2.2.2)])).2.2.2.2))]) (W:=s3) (C:=fun u=>Below m0.heap.size m0 u) (Ext:=FW) (Below.refl _ _).drew FW.refl (fun _ _ _=>FW.trans) ⟨?_,?_,?_,?_,?_,?_,?_,?_,?_,trivial⟩ rfl ?_
                    ·refine ⟨fun _ _ _ _ _ h=>h,fun vals u hu hb=>?_⟩
                     exact AM.knownE [] trivial (AM.reads ⟨0,[],(0,0),[]⟩ (fun e he=>by cases he) (BY z) ⟨hu,.refl _,rfl⟩)
                    ·refine ⟨fun _ _ _ _ _ h=>h,fun vals u hu hb=>?_⟩
                     obtain ⟨h0,_⟩:=hb
                     exact AM.knownE [(163,0,BY z)] ⟨(List.cons.inj h0).1,trivial⟩ (AM.reads ⟨0,_,(3,0),[]⟩ (CB z1.G hu) (.agg ⟨[.bool (a.1),AI a.2.1,AI a.2.2.1,AI a.2.2.2]⟩) ⟨hu,.refl _,rfl⟩)
                    ·refine ⟨fun _ _ _ _ _ h=>h,fun vals u hu hb=>?_⟩
                     exact AM.knownE [] trivial (AM.reads ⟨0,[],(0,0),[]⟩ (fun e he=>by cases he) (BY z) ⟨hu,.refl _,rfl⟩)
                    ·refine ⟨fun _ _ _ _ _ h=>h,fun vals u hu hb=>?_⟩
                     obtain ⟨h2,_⟩:=hb
                     exact AM.knownE [(165,2,BY z)] ⟨(List.cons.inj h2).1,trivial⟩ (AM.reads ⟨0,_,(3,0),[]⟩ (CB z1.G hu) (.agg ⟨[.bool (a.1),AI a.2.1,AI a.2.2.1,AI a.2.2.2]⟩) ⟨hu,.refl _,rfl⟩)
                    ·refine ⟨fun _ _ _ _ he h=>h.keep he,fun vals u hu hb=>?_⟩
                     obtain ⟨h3,_⟩:=hb
                     refine AM.knownE [(166,3,.agg ⟨[.bool (a.1),AI a.2.1,AI a.2.2.1,AI a.2.2.2]⟩)] ⟨(List.cons.inj h3).1,trivial⟩ (AM.runsK ⟨u.heap.size,[],(0,0),[]⟩ ⟨u.heap.size + 1,[⟨u.heap.size,0,[.bool (a.1),AI a.2.1,AI a.2.2.1,AI a.2.2.2],56,true⟩],(0,0),[]⟩ (.value (.slice (IN u.heap.size) 1 1)) (.slice (IN u.heap.size) 1 1) (.inl rfl) (CH u) rfl fun u2 hL hK=>?_)
                     have Bq:Below u.heap.size u u2:=hK.below (Nat.le_refl _) (fun k o=>by cases o)
                     exact ⟨hu.trans (Bq.mono hu.size),Bq,⟨_,rfl,C8 (rs:=[[.bool (a.1),AI a.2.1,AI a.2.2.1,AI a.2.2.2]]) (by simp) (hL.sat.good _ (List.mem_singleton.2 rfl))⟩⟩
                    ·refine ⟨fun _ _ _ _ _ h=>h,fun vals u hu hb=>?_⟩
                     obtain ⟨h4,_⟩:=hb
                     obtain ⟨s1,p2,h8⟩:=h4
                     refine AM.knownE [(167,4,.slice (IN s1) 1 1)] ⟨(List.cons.inj p2).1,trivial⟩ (AM.call (f:=132) [.tmp 167] (args:=[.slice (IN s1) 1 1]) (ats:=#[66]) rfl (CG _ _) ((Nl (IN s1) [(a.1,a.2.1,a.2.2.1,a.2.2.2)] 1 u h8 (by first | assumption | omega | (simp <;> omega))).mono fun en u2 hh=>?_))
                     obtain ⟨rfl,bb⟩:=hh
                     exact ⟨_,rfl,hu.trans (bb.mono hu.size),bb,rfl⟩
                    ·refine ⟨fun _ _ _ _ _ h=>h,fun vals u hu hb=>?_⟩
                     obtain ⟨h1,h5,_⟩:=hb
                     refine AM.knownE [(164,1,.agg ⟨[.bool (a.1),AI a.2.1,AI a.2.2.1,AI a.2.2.2]⟩),(168,5,AI (CC [(a.1,a.2.1,a.2.2.1,a.2.2.2)]))] ⟨(List.cons.inj h1).1,(List.cons.inj h5).1,trivial⟩ (AM.call (f:=127) [.tmp 164,.tmp 168] (args:=[.agg ⟨[.bool (a.1),AI a.2.1,AI a.2.2.1,AI a.2.2.2]⟩,AI (CC [(a.1,a.2.1,a.2.2.1,a.2.2.2)])]) (ats:=#[56,30]) rfl (CG _ _) ((DD a.1 a.2.1 a.2.2.1 a.2.2.2 (CC [(a.1,a.2.1,a.2.2.1,a.2.2.2)]) u).mono fun en u2 hh=>?_))
                     obtain ⟨rfl,bb⟩:=hh
                     exact ⟨_,rfl,hu.trans (bb.mono hu.size),bb,rfl⟩
                    ·refine ⟨fun _ _ _ _ _ h=>h,fun vals u hu hb=>?_⟩
                     obtain ⟨h6,_⟩:=hb
                     exact AM.knownE [(169,6,Bo (AZ a.1 a.2.1 a.2.2.1 a.2.2.2 (CC [(a.1,a.2.1,a.2.2.1,a.2.2.2)])))] ⟨(List.cons.inj h6).1,trivial⟩ (AM.reads ⟨0,[],(0,0),[]⟩ (fun e he=>by cases he) (.agg ⟨[.bool ((AZ a.1 a.2.1 a.2.2.1 a.2.2.2 (CC [(a.1,a.2.1,a.2.2.1,a.2.2.2)])).1),AI ((AZ a.1 a.2.1 a.2.2.1 a.2.2.2 (CC [(a.1,a.2.1,a.2.2.1,a.2.2.2)])).2.1),AI ((AZ a.1 a.2.1 a.2.2.1 a.2.2.2 (CC [(a.1,a.2.1,a.2.2.1,a.2.2.2)])).2.2.1),AI ((AZ a.1 a.2.1 a.2.2.1 a.2.2.2 (CC [(a.1,a.2.1,a.2.2.1,a.2.2.2)])).2.2.2.1)]⟩) ⟨hu,.refl _,rfl⟩)
                    ·refine ⟨fun _ _ _ _ _ h=>h,fun vals u hu hb=>?_⟩
                     obtain ⟨h6,_⟩:=hb
                     exact AM.knownE [(169,6,Bo (AZ a.1 a.2.1 a.2.2.1 a.2.2.2 (CC [(a.1,a.2.1,a.2.2.1,a.2.2.2)])))] ⟨(List.cons.inj h6).1,trivial⟩ (AM.reads ⟨0,[],(0,0),[]⟩ (fun e he=>by cases he) (AI ((AZ a.1 a.2.1 a.2.2.1 a.2.2.2 (CC [(a.1,a.2.1,a.2.2.1,a.2.2.2)])).2.2.2.2)) ⟨hu,.refl _,rfl⟩)
                    intro vals m2 b1 _ a0
                    replace b1:Below m0.heap.size m0 m2:=b1
                    obtain ⟨x0,x1,x2,x3,x4,x5,x6,x7,x8,_⟩:=a0
                    have c9:=z1.below b1
                    refine CI [(4,BY g4),(170,vals 7),(171,vals 8)] fun E119=>?_
                    rw [show vals 7=.agg ⟨[.bool ((AZ a.1 a.2.1 a.2.2.1 a.2.2.2 (CC [(a.1,a.2.1,a.2.2.1,a.2.2.2)])).1),AI ((AZ a.1 a.2.1 a.2.2.1 a.2.2.2 (CC [(a.1,a.2.1,a.2.2.1,a.2.2.2)])).2.1),AI ((AZ a.1 a.2.1 a.2.2.1 a.2.2.2 (CC [(a.1,a.2.1,a.2.2.1,a.2.2.2)])).2.2.1),AI ((AZ a.1 a.2.1 a.2.2.1 a.2.2.2 (CC [(a.1,a.2.1,a.2.2.1,a.2.2.2)])).2.2.2.1)]⟩ from (List.cons.inj x7).1]
                    rw [show vals 8=AI ((AZ a.1 a.2.1 a.2.2.1 a.2.2.2 (CC [(a.1,a.2.1,a.2.2.1,a.2.2.2)])).2.2.2.2) from (List.cons.inj x8).1]
                    refine Fq (i:=9) c9 (N9.getD 9 default) (2,0) (undef) fun w120 b9=>?_
                    refine Fq (i:=10) b9 (N9.getD 10 default) (0,0) (AI ((AZ a.1 a.2.1 a.2.2.1 a.2.2.2 (CC [(a.1,a.2.1,a.2.2.1,a.2.2.2)])).2.2.2.2)) fun w121 a9=>?_
                    refine Em ⟨rfl,At.mid ?_⟩
                    refine AB wu a9 [] fun w122 z2=>?_
                    exact AJ z2 (2,0) (Bo (AZ a.1 a.2.1 a.2.2.1 a.2.2.2 (CC [(a.1,a.2.1,a.2.2.1,a.2.2.2)]))) (o _ _ ⟨by unfold C7; rw [y,c5,c8,d,g,j,l,m,n,q,p,s,r,b0,e0,d0,v,c0,g0] <;> rfl,z2.B⟩)
                   ·refine AB Uv a3 [] fun l2 w2=>?_
                    refine AG (x.op == 18) (fun j0=>?_) (fun j0=>?_)
                    ·refine Aj jA w2 [(3,0)] fun i2 v2=>?_
                     refine AQ v2 (Kb (IN l2.heap.size) [(a.1,a.2.1,a.2.2.1,a.2.2.2)] 1 i2 (C8 (t:=56) (rs:=[[.bool (a.1),AI a.2.1,AI a.2.2.1,AI a.2.2.2]]) (by simp) (v2.ent 5 (by kernel_rfl))) (by first | assumption | omega | (simp <;> omega))) fun w126 w8=>?_
                     refine AB Uu w8 [] fun w127 t2=>?_
                     refine AG (Aw [(a.1,a.2.1,a.2.2.1,a.2.2.2)] == 0) (fun a1=>?_) (fun a1=>?_)
                     ·refine AB i9 t2 [(3,4),(3,8)] fun e2 b7=>?_
                      refine AQ b7 (Rl b.1 b.2.1 b.2.2.1 b.2.2.2 k2.1 k2.2.1 k2.2.2.1 k2.2.2.2 e2) fun w130 a7=>?_
                      refine AB i8 a7 [(3,4)] fun d2 v6=>?_
                      refine AQ v6 (DD b.1 b.2.1 b.2.2.1 b.2.2.2 (GA b.1 b.2.1 b.2.2.1 b.2.2.2 k2.1 k2.2.1 k2.2.2.1 k2.2.2.2) d2) fun w132 t6=>?_
                      refine Aj wt t6 [(2,0)] fun w133 q1=>?_
                      exact AJ q1 (2,0) (Bo (AZ b.1 b.2.1 b.2.2.1 b.2.2.2 (GA b.1 b.2.1 b.2.2.1 b.2.2.2 k2.1 k2.2.1 k2.2.2.1 k2.2.2.2))) (o _ _ ⟨by unfold C7; rw [y,c5,c8,d,g,j,l,m,n,q,p,s,r,b0,e0,d0,v,c0,g0,j0,a1] <;> rfl,q1.B⟩)
                     ·refine AB i7 t2 [(3,4)] fun b2 q6=>?_
                      refine AQ q6 (DD b.1 b.2.1 b.2.2.1 b.2.2.2 (Aw [(a.1,a.2.1,a.2.2.1,a.2.2.2)]) b2) fun w135 m6=>?_
                      refine Aj wo m6 [(2,0)] fun w136 p1=>?_
                      exact AJ p1 (2,0) (Bo (AZ b.1 b.2.1 b.2.2.1 b.2.2.2 (Aw [(a.1,a.2.1,a.2.2.1,a.2.2.2)]))) (o _ _ ⟨by unfold C7; rw [y,c5,c8,d,g,j,l,m,n,q,p,s,r,b0,e0,d0,v,c0,g0,j0,a1] <;> rfl,p1.B⟩)
                    ·refine AB Ut w2 [] fun wz o1=>?_
                     refine AG (x.op == 19) (fun z0=>?_) (fun z0=>?_)
                     ·refine Am 52 i6 o1 [] fun wy n1=>?_
                      refine Fk n1 [0,1,2,3,4,5,6,7,8,9] [(1,3,0),(3,3,0),(5,1,3)] [⟨6,[(196,.agg ⟨[.bool (a.1),AI a.2.1,AI a.2.2.1,AI a.2.2.2]⟩),(198,.agg ⟨[AI x.mu,AI x.hu,AI x.du]⟩)],AI (DV a.1 a.2.1 a.2.2.1 a.2.2.2 x.mu x.hu x.du),true⟩,⟨7,[(194,.agg ⟨[.bool (a.1),AI a.2.1,AI a.2.2.1,AI a.2.2.2]⟩),(199,AI (DV a.1 a.2.1 a.2.2.1 a.2.2.2 x.mu x.hu x.du))],Bo (AZ a.1 a.2.1 a.2.2.1 a.2.2.2 (DV a.1 a.2.1 a.2.2.1 a.2.2.2 x.mu x.hu x.du)),true⟩] [(10,2,0),(11,0,0)] n1.G (fun sp c=>?_) fun wq wx f6=>?_
                      ·simp only [List.mem_cons,List.not_mem_nil,or_false] at c
                       rcases c with rfl | rfl
                       ·exact AV 126 [.tmp 196,.tmp 198] [.agg ⟨[.bool (a.1),AI a.2.1,AI a.2.2.1,AI a.2.2.2]⟩,.agg ⟨[AI x.mu,AI x.hu,AI x.du]⟩] (fun _=>by kernel_rfl) fun hc u hu=>AN hu (Js a.1 a.2.1 a.2.2.1 a.2.2.2 x.mu x.hu x.du u)
                       ·exact AV 127 [.tmp 194,.tmp 199] [.agg ⟨[.bool (a.1),AI a.2.1,AI a.2.2.1,AI a.2.2.2]⟩,AI (DV a.1 a.2.1 a.2.2.1 a.2.2.2 x.mu x.hu x.du)] (fun _=>by kernel_rfl) fun hc u hu=>AN hu (DD a.1 a.2.1 a.2.2.1 a.2.2.2 (DV a.1 a.2.1 a.2.2.1 a.2.2.2 x.mu x.hu x.du) u)
                      refine AB wn f6 [] fun ws m1=>?_
                      exact AJ m1 (2,0) (Bo (AZ a.1 a.2.1 a.2.2.1 a.2.2.2 (DV a.1 a.2.1 a.2.2.1 a.2.2.2 x.mu x.hu x.du))) (o _ _ ⟨by unfold C7; rw [y,c5,c8,d,g,j,l,m,n,q,p,s,r,b0,e0,d0,v,c0,g0,j0,z0] <;> rfl,m1.B⟩)
                     ·refine AB wm o1 [(2,0)] fun wr l1=>?_
                      exact AJ l1 (2,0) (.tuple #[.agg ⟨[.bool false,AI 0,AI 0,AI 0]⟩,AI 1]) (o _ _ ⟨by unfold C7; rw [y,c5,c8,d,g,j,l,m,n,q,p,s,r,b0,e0,d0,v,c0,g0,j0,z0] <;> rfl,l1.B⟩)
def S3 (ns:List (Df)) (ss:List (Df)) (ps:List (Df)) (x:Ex):Bool×Int×Int×Int×Int:=C7 ns ss ps x (false,0,0,0) (false,0,0,0) (false,0,0,0)
def s9 (r:Bool×Int×Int×Int×Int):Value:=.tuple #[.agg ⟨[.bool (r.1),AI (r.2.1),AI (r.2.2.1),AI (r.2.2.2.1)]⟩,AI (r.2.2.2.2)]
noncomputable def Q4:Code:=Tryz.f112.body.getD .skip
def ABZ:List Item:=(CW (Ky 10) 400 [false] ([.code Q4])).2
theorem S2 (f:Option Addr) (ns:List (Df)) (k:Nat) (d:Option Addr) (ss:List (Df)) (j:Nat) (b:Option Addr) (p:List (Df)) (i:Nat) (x:Ex) (a:Option Addr) (g:Nat) (w:World) (s:rowsDf w f ns) (o:ns.length≤4294967296) (q:rowsDf w d ss) (l:ss.length≤4294967296) (r:rowsDf w b p) (m:p.length≤4294967296) (u:rowsEx w a []) (v:x.ks.length=0):Calls Tryz.prog 112 ([.agg ⟨[.slice f ns.length k,.slice d ss.length j,.slice b p.length i]⟩,.agg ⟨[AI x.op,AI x.num,AI x.den,AI x.mu,AI x.hu,AI x.du,By (x.nm),AI x.cnt,AI x.md,.slice a 0 g]⟩]:List Value).toArray w fun e w'=>e=.returned (s9 (S3 ns ss p x))∧Below w.heap.size w w':=by
 refine AR (fn:=Tryz.f112) (c:=Q4) (n:=204) ?_
 have K1:=Wk.start w
 refine CK (CW (Ky 10) 400 [false] ([.code Q4])).1 [(4,2),(15,1)] ABZ K1 fun t z=>?_
 have y:Wk w t [⟨w.heap.size,0,[.slice f ns.length k,.slice d ss.length j,.slice b p.length i],178,true⟩,⟨w.heap.size + 1,0,[AI x.op,AI x.num,AI x.den,AI x.mu,AI x.hu,AI x.du,By (x.nm),AI x.cnt,AI x.md,.slice a 0 g],53,true⟩,⟨w.heap.size + 2,0,[.bool false,AI 0,AI 0,AI 0],56,true⟩,⟨w.heap.size + 3,0,[.bool false,AI 0,AI 0,AI 0,.bool false,AI 0,AI 0,AI 0,.bool false,AI 0,AI 0,AI 0],188,true⟩] [] []:=z.pk [0,1,2,3] []
 refine AU [(2,BY (w.heap.size)),(3,BY (w.heap.size + 1)),(4,BY (w.heap.size + 2)),(6,BY (w.heap.size + 3))] fun E2=>?_
 refine NX (todo':=Qc) (by kernel_rfl) ?_
 exact JM ns ss p x (false,0,0,0) (false,0,0,0) (false,0,0,0) f d b a k j i 0 g w.heap.size (w.heap.size + 1) (w.heap.size + 2) (w.heap.size + 3) E2 w t s o q l r m y (fun _ _ h=>⟨h.1.trans (by unfold S3; rfl),h.2⟩)
def Oj (r0:I7) (ns:List (Df)) (ss:List (Df)) (ps:List (Df)) (x:Ex):Bool×Int×Int×Int×Int:=cond (!((r0).2.2.2.2 == 0)) ((false,0,0,0,(r0).2.2.2.2)) (C7 ns ss ps x (r0.1,r0.2.1,r0.2.2.1,r0.2.2.2.1) (false,0,0,0) (false,0,0,0))
def s8 (r:Bool×Int×Int×Int×Int):Value:=.tuple #[.agg ⟨[.bool (r.1),AI (r.2.1),AI (r.2.2.1),AI (r.2.2.2.1)]⟩,AI (r.2.2.2.2)]
noncomputable def Q3:Code:=Tryz.f112.body.getD .skip
def cD:List Item:=(CW (Gj (GQ 51)) 400 [true] ([.code Q3])).2
def cC:List Item:=(CW (fun _=>false) 400 [] (AC (AC cD))).2
def PV:List Item:=(CW (fun _=>false) 400 [] (AC cC)).2
def ABY:List Item:=(CW (fun _=>false) 400 [] (AD PV)).2
def ABX:List Item:=(CW (Ky 10) 400 [false] (AF PV)).2
theorem S1 (p:I7) (f:Option Addr) (ns:List (Df)) (l:Nat) (d:Option Addr) (ss:List (Df)) (j:Nat) (b:Option Addr) (r:List (Df)) (i:Nat) (x:Ex) (s:Option Addr) (a:Ex) (m:Nat) (w:World) (g0:rowsDf w f ns) (y:ns.length≤4294967296) (d0:rowsDf w d ss) (t:ss.length≤4294967296) (e0:rowsDf w b r) (v:r.length≤4294967296) (c0:rowsEx w s [a]) (l0:x.ks.length=1) (j0:∀ u,Below w.heap.size w u→∀ (A:Option Addr) (c:Nat),rowsEx u A a.ks→Calls Tryz.prog 112 ([.agg ⟨[.slice f ns.length l,.slice d ss.length j,.slice b r.length i]⟩,.agg ⟨AW a A c⟩]:List Value).toArray u fun e w'=>e=.returned (JL p)∧Below u.heap.size u w'):Calls Tryz.prog 112 ([.agg ⟨[.slice f ns.length l,.slice d ss.length j,.slice b r.length i]⟩,.agg ⟨[AI x.op,AI x.num,AI x.den,AI x.mu,AI x.hu,AI x.du,By (x.nm),AI x.cnt,AI x.md,.slice s 1 m]⟩]:List Value).toArray w fun e w'=>e=.returned (s8 (Oj p ns ss r x))∧Below w.heap.size w w':=by
 refine AR (fn:=Tryz.f112) (c:=Q3) (n:=204) ?_
 have K1:=Wk.start w
 obtain ⟨gk,o,rfl,i0,z⟩:=c0.all (by simp)
 obtain ⟨b0,a0,q,h0⟩:=z 0 a rfl
 refine CK (CW (Gj (GQ 51)) 400 [true] ([.code Q3])).1 [(15,1)] cD K1 fun w1 K2=>?_
 refine Au (g:=gk) (off:=o) (cap:=m) (sz:=10) (k:=0) (len:=1) (some 21) (by decide) Tryz.underlying51 ?_
 refine BI 53 gk (o + 0 * 10) [AI a.op,AI a.num,AI a.den,AI a.mu,AI a.hu,AI a.du,By (a.nm),AI a.cnt,AI a.md,.slice b0 a.ks.length a0] (some 22) (Ab q i0 K2.B) ?_
 refine CK (CW (fun _=>false) 400 [] (AC (AC cD))).1 [(2,0),(8,4)] cC K2 fun w2 K3=>?_
 refine AQ K3 (args:=[.agg ⟨[.slice f ns.length l,.slice d ss.length j,.slice b r.length i]⟩,.agg ⟨[AI a.op,AI a.num,AI a.den,AI a.mu,AI a.hu,AI a.du,By (a.nm),AI a.cnt,AI a.md,.slice b0 a.ks.length a0]⟩]) (j0 w2 K3.B _ _ (h0.below K3.B)) fun w3 K4=>?_
 refine CK (CW (fun _=>false) 400 [] (AC cC)).1 [(9,5)] PV K4 fun w4 K5=>?_
 refine AG (!((p).2.2.2.2 == 0)) (fun c5=>?_) (fun c5=>?_)
 ·refine CK (CW (fun _=>false) 400 [] (AD PV)).1 [(4,2)] ABY K5 fun w6 K6=>?_
  exact AP K6 (2,0) (.tuple #[.agg ⟨[.bool false,AI 0,AI 0,AI 0]⟩,AI ((p).2.2.2.2)]) (by unfold Oj; rw [c5] <;> rfl)
 ·refine CK (CW (Ky 10) 400 [false] (AF PV)).1 [(9,5),(35,3)] ABX K5 fun w7 K7=>?_
  have K8:Wk w w7 [⟨w.heap.size,0,[.slice f ns.length l,.slice d ss.length j,.slice b r.length i],178,true⟩,⟨w.heap.size + 1,0,[AI x.op,AI x.num,AI x.den,AI x.mu,AI x.hu,AI x.du,By (x.nm),AI x.cnt,AI x.md,.slice (some ⟨gk,o,none⟩) 1 m],53,true⟩,⟨w.heap.size + 2,0,[.bool false,AI 0,AI 0,AI 0],56,true⟩,⟨w.heap.size + 3,0,[.bool ((p).1),AI ((p).2.1),AI ((p).2.2.1),AI ((p).2.2.2.1),.bool false,AI 0,AI 0,AI 0,.bool false,AI 0,AI 0,AI 0],188,true⟩] [] []:=K7.pk [0,1,2,3] []
  refine AU [(2,BY (w.heap.size)),(3,BY (w.heap.size + 1)),(4,BY (w.heap.size + 2)),(6,BY (w.heap.size + 3))] fun E8=>?_
  refine NX (todo':=Qc) (by kernel_rfl) ?_
  exact JM ns ss r x (p.1,p.2.1,p.2.2.1,p.2.2.2.1) (false,0,0,0) (false,0,0,0) f d b (some ⟨gk,o,none⟩) l j i 1 m w.heap.size (w.heap.size + 1) (w.heap.size + 2) (w.heap.size + 3) E8 w w7 g0 y d0 t e0 v K8 (fun _ _ h=>⟨h.1.trans (by unfold Oj; rw [c5] <;> rfl),h.2⟩)
def MQ (r0:I7) (r1:I7) (ns:List (Df)) (ss:List (Df)) (ps:List (Df)) (x:Ex):Bool×Int×Int×Int×Int:=cond (!((r0).2.2.2.2 == 0)) ((false,0,0,0,(r0).2.2.2.2)) (cond (!((r1).2.2.2.2 == 0)) ((false,0,0,0,(r1).2.2.2.2)) (C7 ns ss ps x (r0.1,r0.2.1,r0.2.2.1,r0.2.2.2.1) (r1.1,r1.2.1,r1.2.2.1,r1.2.2.2.1) (false,0,0,0)))
def s7 (r:Bool×Int×Int×Int×Int):Value:=.tuple #[.agg ⟨[.bool (r.1),AI (r.2.1),AI (r.2.2.1),AI (r.2.2.2.1)]⟩,AI (r.2.2.2.2)]
noncomputable def Q2:Code:=Tryz.f112.body.getD .skip
def cB:List Item:=(CW (Gj (GQ 51)) 400 [true] ([.code Q2])).2
def bx:List Item:=(CW (fun _=>false) 400 [] (AC (AC cB))).2
def PU:List Item:=(CW (fun _=>false) 400 [] (AC bx)).2
def ABW:List Item:=(CW (fun _=>false) 400 [] (AD PU)).2
def bv:List Item:=(CW (Gj (GQ 51)) 400 [true] (AF PU)).2
def bq:List Item:=(CW (fun _=>false) 400 [] (AC (AC bv))).2
def PT:List Item:=(CW (fun _=>false) 400 [] (AC bq)).2
def ABV:List Item:=(CW (fun _=>false) 400 [] (AD PT)).2
def ABU:List Item:=(CW (Ky 10) 400 [false] (AF PT)).2
theorem S0 (r q:I7) (d:Option Addr) (ns:List (Df)) (m:Nat) (b:Option Addr) (ss:List (Df)) (l:Nat) (a:Option Addr) (t:List (Df)) (j:Nat) (x:Ex) (z:Option Addr) (i f:Ex) (p:Nat) (w:World) (q0:rowsDf w d ns) (c0:ns.length≤4294967296) (n0:rowsDf w b ss) (a0:ss.length≤4294967296) (p0:rowsDf w a t) (b0:t.length≤4294967296) (m0:rowsEx w z [i,f]) (f1:x.ks.length=2) (b1:∀ u,Below w.heap.size w u→∀ (A:Option Addr) (c:Nat),rowsEx u A i.ks→Calls Tryz.prog 112 ([.agg ⟨[.slice d ns.length m,.slice b ss.length l,.slice a t.length j]⟩,.agg ⟨AW i A c⟩]:List Value).toArray u fun e w'=>e=.returned (JL r)∧Below u.heap.size u w') (a1:∀ u,Below w.heap.size w u→∀ (A:Option Addr) (c:Nat),rowsEx u A f.ks→Calls Tryz.prog 112 ([.agg ⟨[.slice d ns.length m,.slice b ss.length l,.slice a t.length j]⟩,.agg ⟨AW f A c⟩]:List Value).toArray u fun e w'=>e=.returned (JL q)∧Below u.heap.size u w'):Calls Tryz.prog 112 ([.agg ⟨[.slice d ns.length m,.slice b ss.length l,.slice a t.length j]⟩,.agg ⟨[AI x.op,AI x.num,AI x.den,AI x.mu,AI x.hu,AI x.du,By (x.nm),AI x.cnt,AI x.md,.slice z 2 p]⟩]:List Value).toArray w fun e w'=>e=.returned (s7 (MQ r q ns ss t x))∧Below w.heap.size w w':=by
 refine AR (fn:=Tryz.f112) (c:=Q2) (n:=204) ?_
 have K1:=Wk.start w
 obtain ⟨gk,o,rfl,l0,s⟩:=m0.all (by simp)
 obtain ⟨j0,i0,y,t0⟩:=s 0 i rfl
 refine CK (CW (Gj (GQ 51)) 400 [true] ([.code Q2])).1 [(15,1)] cB K1 fun w1 K2=>?_
 refine Au (g:=gk) (off:=o) (cap:=p) (sz:=10) (k:=0) (len:=2) (some 21) (by decide) Tryz.underlying51 ?_
 refine BI 53 gk (o + 0 * 10) [AI i.op,AI i.num,AI i.den,AI i.mu,AI i.hu,AI i.du,By (i.nm),AI i.cnt,AI i.md,.slice j0 i.ks.length i0] (some 22) (Ab y l0 K2.B) ?_
 refine CK (CW (fun _=>false) 400 [] (AC (AC cB))).1 [(2,0),(8,4)] bx K2 fun w2 K3=>?_
 refine AQ K3 (args:=[.agg ⟨[.slice d ns.length m,.slice b ss.length l,.slice a t.length j]⟩,.agg ⟨[AI i.op,AI i.num,AI i.den,AI i.mu,AI i.hu,AI i.du,By (i.nm),AI i.cnt,AI i.md,.slice j0 i.ks.length i0]⟩]) (b1 w2 K3.B _ _ (t0.below K3.B)) fun w3 K4=>?_
 refine CK (CW (fun _=>false) 400 [] (AC bx)).1 [(9,5)] PU K4 fun w4 K5=>?_
 refine AG (!((r).2.2.2.2 == 0)) (fun c5=>?_) (fun c5=>?_)
 ·refine CK (CW (fun _=>false) 400 [] (AD PU)).1 [(4,2)] ABW K5 fun w6 K6=>?_
  exact AP K6 (2,0) (.tuple #[.agg ⟨[.bool false,AI 0,AI 0,AI 0]⟩,AI ((r).2.2.2.2)]) (by unfold MQ; rw [c5] <;> rfl)
 ·obtain ⟨h0,g0,v,s0⟩:=s 1 f rfl
  refine CK (CW (Gj (GQ 51)) 400 [true] (AF PU)).1 [(9,5),(35,3)] bv K5 fun w7 K7=>?_
  refine Au (g:=gk) (off:=o) (cap:=p) (sz:=10) (k:=1) (len:=2) (some 21) (by decide) Tryz.underlying51 ?_
  refine BI 53 gk (o + 1 * 10) [AI f.op,AI f.num,AI f.den,AI f.mu,AI f.hu,AI f.du,By (f.nm),AI f.cnt,AI f.md,.slice h0 f.ks.length g0] (some 22) (Ab v l0 K7.B) ?_
  refine CK (CW (fun _=>false) 400 [] (AC (AC bv))).1 [(2,0),(8,6)] bq K7 fun w8 K8=>?_
  refine AQ K8 (args:=[.agg ⟨[.slice d ns.length m,.slice b ss.length l,.slice a t.length j]⟩,.agg ⟨[AI f.op,AI f.num,AI f.den,AI f.mu,AI f.hu,AI f.du,By (f.nm),AI f.cnt,AI f.md,.slice h0 f.ks.length g0]⟩]) (a1 w8 K8.B _ _ (s0.below K8.B)) fun w9 K9=>?_
  refine CK (CW (fun _=>false) 400 [] (AC bq)).1 [(9,7)] PT K9 fun e1 v0=>?_
  refine AG (!((q).2.2.2.2 == 0)) (fun d0=>?_) (fun d0=>?_)
  ·refine CK (CW (fun _=>false) 400 [] (AD PT)).1 [(4,2)] ABV v0 fun d1 z0=>?_
   exact AP z0 (2,0) (.tuple #[.agg ⟨[.bool false,AI 0,AI 0,AI 0]⟩,AI ((q).2.2.2.2)]) (by unfold MQ; rw [c5,d0] <;> rfl)
  ·refine CK (CW (Ky 10) 400 [false] (AF PT)).1 [(9,7),(35,3)] ABU v0 fun e0 x0=>?_
   have w0:Wk w e0 [⟨w.heap.size,0,[.slice d ns.length m,.slice b ss.length l,.slice a t.length j],178,true⟩,⟨w.heap.size + 1,0,[AI x.op,AI x.num,AI x.den,AI x.mu,AI x.hu,AI x.du,By (x.nm),AI x.cnt,AI x.md,.slice (some ⟨gk,o,none⟩) 2 p],53,true⟩,⟨w.heap.size + 2,0,[.bool false,AI 0,AI 0,AI 0],56,true⟩,⟨w.heap.size + 3,0,[.bool ((r).1),AI ((r).2.1),AI ((r).2.2.1),AI ((r).2.2.2.1),.bool ((q).1),AI ((q).2.1),AI ((q).2.2.1),AI ((q).2.2.2.1),.bool false,AI 0,AI 0,AI 0],188,true⟩] [] []:=x0.pk [0,1,2,3] []
   refine AU [(2,BY (w.heap.size)),(3,BY (w.heap.size + 1)),(4,BY (w.heap.size + 2)),(6,BY (w.heap.size + 3))] fun c1=>?_
   refine NX (todo':=Qc) (by kernel_rfl) ?_
   exact JM ns ss t x (r.1,r.2.1,r.2.2.1,r.2.2.2.1) (q.1,q.2.1,q.2.2.1,q.2.2.2.1) (false,0,0,0) d b a (some ⟨gk,o,none⟩) m l j 2 p w.heap.size (w.heap.size + 1) (w.heap.size + 2) (w.heap.size + 3) c1 w e0 q0 c0 n0 a0 p0 b0 w0 (fun _ _ h=>⟨h.1.trans (by unfold MQ; rw [c5,d0] <;> rfl),h.2⟩)
def LC (r0:I7) (r1:I7) (r2:I7) (ns:List (Df)) (ss:List (Df)) (ps:List (Df)) (x:Ex):Bool×Int×Int×Int×Int:=cond (!((r0).2.2.2.2 == 0)) ((false,0,0,0,(r0).2.2.2.2)) (cond (!((r1).2.2.2.2 == 0)) ((false,0,0,0,(r1).2.2.2.2)) (cond (!((r2).2.2.2.2 == 0)) ((false,0,0,0,(r2).2.2.2.2)) (C7 ns ss ps x (r0.1,r0.2.1,r0.2.2.1,r0.2.2.2.1) (r1.1,r1.2.1,r1.2.2.1,r1.2.2.2.1) (r2.1,r2.2.1,r2.2.2.1,r2.2.2.2.1))))
def s6 (r:Bool×Int×Int×Int×Int):Value:=.tuple #[.agg ⟨[.bool (r.1),AI (r.2.1),AI (r.2.2.1),AI (r.2.2.2.1)]⟩,AI (r.2.2.2.2)]
noncomputable def Q1:Code:=Tryz.f112.body.getD .skip
def bo:List Item:=(CW (Gj (GQ 51)) 400 [true] ([.code Q1])).2
def bm:List Item:=(CW (fun _=>false) 400 [] (AC (AC bo))).2
def PS:List Item:=(CW (fun _=>false) 400 [] (AC bm)).2
def ABT:List Item:=(CW (fun _=>false) 400 [] (AD PS)).2
def bk:List Item:=(CW (Gj (GQ 51)) 400 [true] (AF PS)).2
def bj:List Item:=(CW (fun _=>false) 400 [] (AC (AC bk))).2
def PR:List Item:=(CW (fun _=>false) 400 [] (AC bj)).2
def ABS:List Item:=(CW (fun _=>false) 400 [] (AD PR)).2
def bh:List Item:=(CW (Gj (GQ 51)) 400 [true] (AF PR)).2
def bc:List Item:=(CW (fun _=>false) 400 [] (AC (AC bh))).2
def MV:List Item:=(CW (fun _=>false) 400 [] (AC bc)).2
def xP:List Item:=(CW (fun _=>false) 400 [] (AD MV)).2
def xO:List Item:=(CW (Ky 10) 400 [false] (AF MV)).2
theorem Sz (v t s:I7) (d:Option Addr) (ns:List (Df)) (j:Nat) (b:Option Addr) (ss:List (Df)) (i:Nat) (a:Option Addr) (y:List (Df)) (f:Nat) (x:Ex) (d0:Option Addr) (p o m:Ex) (q:Nat) (w:World) (a1:rowsDf w d ns) (h0:ns.length≤4294967296) (x0:rowsDf w b ss) (e0:ss.length≤4294967296) (z0:rowsDf w a y) (g0:y.length≤4294967296) (w0:rowsEx w d0 [p,o,m]) (c2:x.ks.length=3) (s1:∀ u,Below w.heap.size w u→∀ (A:Option Addr) (c:Nat),rowsEx u A p.ks→Calls Tryz.prog 112 ([.agg ⟨[.slice d ns.length j,.slice b ss.length i,.slice a y.length f]⟩,.agg ⟨AW p A c⟩]:List Value).toArray u fun e w'=>e=.returned (JL v)∧Below u.heap.size u w') (q1:∀ u,Below w.heap.size w u→∀ (A:Option Addr) (c:Nat),rowsEx u A o.ks→Calls Tryz.prog 112 ([.agg ⟨[.slice d ns.length j,.slice b ss.length i,.slice a y.length f]⟩,.agg ⟨AW o A c⟩]:List Value).toArray u fun e w'=>e=.returned (JL t)∧Below u.heap.size u w') (p1:∀ u,Below w.heap.size w u→∀ (A:Option Addr) (c:Nat),rowsEx u A m.ks→Calls Tryz.prog 112 ([.agg ⟨[.slice d ns.length j,.slice b ss.length i,.slice a y.length f]⟩,.agg ⟨AW m A c⟩]:List Value).toArray u fun e w'=>e=.returned (JL s)∧Below u.heap.size u w'):Calls Tryz.prog 112 ([.agg ⟨[.slice d ns.length j,.slice b ss.length i,.slice a y.length f]⟩,.agg ⟨[AI x.op,AI x.num,AI x.den,AI x.mu,AI x.hu,AI x.du,By (x.nm),AI x.cnt,AI x.md,.slice d0 3 q]⟩]:List Value).toArray w fun e w'=>e=.returned (s6 (LC v t s ns ss y x))∧Below w.heap.size w w':=by
 refine AR (fn:=Tryz.f112) (c:=Q1) (n:=204) ?_
 have K1:=Wk.start w
 obtain ⟨gk,l,rfl,i0,r⟩:=w0.all (by simp)
 obtain ⟨v0,t0,b0,d1⟩:=r 0 p rfl
 refine CK (CW (Gj (GQ 51)) 400 [true] ([.code Q1])).1 [(15,1)] bo K1 fun w1 K2=>?_
 refine Au (g:=gk) (off:=l) (cap:=q) (sz:=10) (k:=0) (len:=3) (some 21) (by decide) Tryz.underlying51 ?_
 refine BI 53 gk (l + 0 * 10) [AI p.op,AI p.num,AI p.den,AI p.mu,AI p.hu,AI p.du,By (p.nm),AI p.cnt,AI p.md,.slice v0 p.ks.length t0] (some 22) (Ab b0 i0 K2.B) ?_
 refine CK (CW (fun _=>false) 400 [] (AC (AC bo))).1 [(2,0),(8,4)] bm K2 fun w2 K3=>?_
 refine AQ K3 (args:=[.agg ⟨[.slice d ns.length j,.slice b ss.length i,.slice a y.length f]⟩,.agg ⟨[AI p.op,AI p.num,AI p.den,AI p.mu,AI p.hu,AI p.du,By (p.nm),AI p.cnt,AI p.md,.slice v0 p.ks.length t0]⟩]) (s1 w2 K3.B _ _ (d1.below K3.B)) fun w3 K4=>?_
 refine CK (CW (fun _=>false) 400 [] (AC bm)).1 [(9,5)] PS K4 fun w4 K5=>?_
 refine AG (!((v).2.2.2.2 == 0)) (fun c5=>?_) (fun c5=>?_)
 ·refine CK (CW (fun _=>false) 400 [] (AD PS)).1 [(4,2)] ABT K5 fun w6 K6=>?_
  exact AP K6 (2,0) (.tuple #[.agg ⟨[.bool false,AI 0,AI 0,AI 0]⟩,AI ((v).2.2.2.2)]) (by unfold LC; rw [c5] <;> rfl)
 ·obtain ⟨s0,q0,a0,c1⟩:=r 1 o rfl
  refine CK (CW (Gj (GQ 51)) 400 [true] (AF PS)).1 [(9,5),(35,3)] bk K5 fun w7 K7=>?_
  refine Au (g:=gk) (off:=l) (cap:=q) (sz:=10) (k:=1) (len:=3) (some 21) (by decide) Tryz.underlying51 ?_
  refine BI 53 gk (l + 1 * 10) [AI o.op,AI o.num,AI o.den,AI o.mu,AI o.hu,AI o.du,By (o.nm),AI o.cnt,AI o.md,.slice s0 o.ks.length q0] (some 22) (Ab a0 i0 K7.B) ?_
  refine CK (CW (fun _=>false) 400 [] (AC (AC bk))).1 [(2,0),(8,6)] bj K7 fun w8 K8=>?_
  refine AQ K8 (args:=[.agg ⟨[.slice d ns.length j,.slice b ss.length i,.slice a y.length f]⟩,.agg ⟨[AI o.op,AI o.num,AI o.den,AI o.mu,AI o.hu,AI o.du,By (o.nm),AI o.cnt,AI o.md,.slice s0 o.ks.length q0]⟩]) (q1 w8 K8.B _ _ (c1.below K8.B)) fun w9 K9=>?_
  refine CK (CW (fun _=>false) 400 [] (AC bj)).1 [(9,7)] PR K9 fun b2 g1=>?_
  refine AG (!((t).2.2.2.2 == 0)) (fun c0=>?_) (fun c0=>?_)
  ·refine CK (CW (fun _=>false) 400 [] (AD PR)).1 [(4,2)] ABS g1 fun a2 o1=>?_
   exact AP o1 (2,0) (.tuple #[.agg ⟨[.bool false,AI 0,AI 0,AI 0]⟩,AI ((t).2.2.2.2)]) (by unfold LC; rw [c5,c0] <;> rfl)
  ·obtain ⟨p0,n0,z,b1⟩:=r 2 m rfl
   refine CK (CW (Gj (GQ 51)) 400 [true] (AF PR)).1 [(9,7),(35,3)] bh g1 fun z1 f1=>?_
   refine Au (g:=gk) (off:=l) (cap:=q) (sz:=10) (k:=2) (len:=3) (some 21) (by decide) Tryz.underlying51 ?_
   refine BI 53 gk (l + 2 * 10) [AI m.op,AI m.num,AI m.den,AI m.mu,AI m.hu,AI m.du,By (m.nm),AI m.cnt,AI m.md,.slice p0 m.ks.length n0] (some 22) (Ab z i0 f1.B) ?_
   refine CK (CW (fun _=>false) 400 [] (AC (AC bh))).1 [(2,0),(8,8)] bc f1 fun h1 l0=>?_
   refine AQ l0 (args:=[.agg ⟨[.slice d ns.length j,.slice b ss.length i,.slice a y.length f]⟩,.agg ⟨[AI m.op,AI m.num,AI m.den,AI m.mu,AI m.hu,AI m.du,By (m.nm),AI m.cnt,AI m.md,.slice p0 m.ks.length n0]⟩]) (p1 h1 l0.B _ _ (b1.below l0.B)) fun x1 n1=>?_
   refine CK (CW (fun _=>false) 400 [] (AC bc)).1 [(9,9)] MV n1 fun v1 e1=>?_
   refine AG (!((s).2.2.2.2 == 0)) (fun j0=>?_) (fun j0=>?_)
   ·refine CK (CW (fun _=>false) 400 [] (AD MV)).1 [(4,2)] xP e1 fun u1 m1=>?_
    exact AP m1 (2,0) (.tuple #[.agg ⟨[.bool false,AI 0,AI 0,AI 0]⟩,AI ((s).2.2.2.2)]) (by unfold LC; rw [c5,c0,j0] <;> rfl)
   ·refine CK (CW (Ky 10) 400 [false] (AF MV)).1 [(9,9),(35,3)] xO e1 fun m0 l1=>?_
    have i1:Wk w m0 [⟨w.heap.size,0,[.slice d ns.length j,.slice b ss.length i,.slice a y.length f],178,true⟩,⟨w.heap.size + 1,0,[AI x.op,AI x.num,AI x.den,AI x.mu,AI x.hu,AI x.du,By (x.nm),AI x.cnt,AI x.md,.slice (some ⟨gk,l,none⟩) 3 q],53,true⟩,⟨w.heap.size + 2,0,[.bool false,AI 0,AI 0,AI 0],56,true⟩,⟨w.heap.size + 3,0,[.bool ((v).1),AI ((v).2.1),AI ((v).2.2.1),AI ((v).2.2.2.1),.bool ((t).1),AI ((t).2.1),AI ((t).2.2.1),AI ((t).2.2.2.1),.bool ((s).1),AI ((s).2.1),AI ((s).2.2.1),AI ((s).2.2.2.1)],188,true⟩] [] []:=l1.pk [0,1,2,3] []
    refine AU [(2,BY (w.heap.size)),(3,BY (w.heap.size + 1)),(4,BY (w.heap.size + 2)),(6,BY (w.heap.size + 3))] fun t1=>?_
    refine NX (todo':=Qc) (by kernel_rfl) ?_
    exact JM ns ss y x (v.1,v.2.1,v.2.2.1,v.2.2.2.1) (t.1,t.2.1,t.2.2.1,t.2.2.2.1) (s.1,s.2.1,s.2.2.1,s.2.2.2.1) d b a (some ⟨gk,l,none⟩) j i f 3 q w.heap.size (w.heap.size + 1) (w.heap.size + 2) (w.heap.size + 3) t1 w m0 a1 h0 x0 e0 z0 g0 i1 (fun _ _ h=>⟨h.1.trans (by unfold LC; rw [c5,c0,j0] <;> rfl),h.2⟩)
end
end Go.Proofs.YtkjbdagicjbjjaaGreat

/-
  Part 17 of a proof: contracts of functions.
-/
import Derived.Test.YtmcpjkcggfmcmaaGreatDoorD16
set_option linter.all false
namespace Go.Proofs.YtmcpjkcggfmcmaaGreatDoor
noncomputable section
open Go.RowKit
set_option maxRecDepth 100000
set_option maxHeartbeats 1000000
attribute [local irreducible] BO CB AE AG AL Ay Aj AP Bc Cq Eb CT CO At Fr
def DB (ns:List Df) (ss:List Df) (ps:List Df) (x:Ex) (k0:Bool×Int×Int×Int) (k1:Bool×Int×Int×Int) (k2:Bool×Int×Int×Int):Bool×Int×Int×Int×Int:=cond (x.op == 1) ((false,x.mu,x.hu,x.du,0)) (cond (x.op == 2) ((true,0,0,0,0)) (cond (x.op == 3) (Cv ns x.nm) (cond (x.op == 20) (Cv ps x.nm) (cond (x.op == 21) (Cv ps x.nm) (cond (x.op == 4) (cond ((Cv ss x.nm).2.2.2.2 == 0) (AV ((Cv ss x.nm).1) ((Cv ss x.nm).2.1) ((Cv ss x.nm).2.2.1) ((Cv ss x.nm).2.2.2.1) (Dh k0.1 k0.2.1 k0.2.2.1 k0.2.2.2 0 0 0)) (AV ((Cv ss x.nm).1) ((Cv ss x.nm).2.1) ((Cv ss x.nm).2.2.1) ((Cv ss x.nm).2.2.2.1) ((Cv ss x.nm).2.2.2.2))) (cond (x.op == 5) (AV k0.1 k0.2.1 k0.2.2.1 k0.2.2.2 (BD k0.1 k0.2.1 k0.2.2.1 k0.2.2.2 k1.1 k1.2.1 k1.2.2.1 k1.2.2.2)) (cond (x.op == 6) (AV k0.1 k0.2.1 k0.2.2.1 k0.2.2.2 (BD k0.1 k0.2.1 k0.2.2.1 k0.2.2.2 k1.1 k1.2.1 k1.2.2.1 k1.2.2.2)) (cond (x.op == 14) (AV k0.1 k0.2.1 k0.2.2.1 k0.2.2.2 (BD k0.1 k0.2.1 k0.2.2.1 k0.2.2.2 k1.1 k1.2.1 k1.2.2.1 k1.2.2.2)) (cond (x.op == 15) (AV k0.1 k0.2.1 k0.2.2.1 k0.2.2.2 (BD k0.1 k0.2.1 k0.2.2.1 k0.2.2.2 k1.1 k1.2.1 k1.2.2.1 k1.2.2.2)) (cond (x.op == 7) (GB x.op k0.1 k0.2.1 k0.2.2.1 k0.2.2.2 k1.1 k1.2.1 k1.2.2.1 k1.2.2.2) (cond (x.op == 8) (GB x.op k0.1 k0.2.1 k0.2.2.1 k0.2.2.2 k1.1 k1.2.1 k1.2.2.1 k1.2.2.2) (cond (x.op == 9) (AV true 0 0 0 (BD k0.1 k0.2.1 k0.2.2.1 k0.2.2.2 k1.1 k1.2.1 k1.2.2.1 k1.2.2.2)) (cond (x.op == 10) (AV true 0 0 0 (BD k0.1 k0.2.1 k0.2.2.1 k0.2.2.2 k1.1 k1.2.1 k1.2.2.1 k1.2.2.2)) (cond (x.op == 11) (AV true 0 0 0 (GV k0.1 k0.2.1 k0.2.2.1 k0.2.2.2 k1.1 k1.2.1 k1.2.2.1 k1.2.2.2)) (cond (x.op == 12) (AV true 0 0 0 (Av [(k0.1,k0.2.1,k0.2.2.1,k0.2.2.2),(k1.1,k1.2.1,k1.2.2.1,k1.2.2.2)])) (cond (x.op == 13) (AV true 0 0 0 (Av [(k0.1,k0.2.1,k0.2.2.1,k0.2.2.2),(k1.1,k1.2.1,k1.2.2.1,k1.2.2.2)])) (cond (x.op == 17) (AV true 0 0 0 (Av [(k0.1,k0.2.1,k0.2.2.1,k0.2.2.2)])) (cond (x.op == 16) (AV k0.1 k0.2.1 k0.2.2.1 k0.2.2.2 (Bw [(k0.1,k0.2.1,k0.2.2.1,k0.2.2.2)])) (cond (x.op == 18) (cond (Av [(k0.1,k0.2.1,k0.2.2.1,k0.2.2.2)] == 0) (AV k1.1 k1.2.1 k1.2.2.1 k1.2.2.2 (GV k1.1 k1.2.1 k1.2.2.1 k1.2.2.2 k2.1 k2.2.1 k2.2.2.1 k2.2.2.2)) (AV k1.1 k1.2.1 k1.2.2.1 k1.2.2.2 (Av [(k0.1,k0.2.1,k0.2.2.1,k0.2.2.2)]))) (cond (x.op == 19) (AV k0.1 k0.2.1 k0.2.2.1 k0.2.2.2 (Dh k0.1 k0.2.1 k0.2.2.1 k0.2.2.2 x.mu x.hu x.du)) ((false,0,0,0,1))))))))))))))))))))))
abbrev JY:=Bool×Int×Int×Int×Int
noncomputable def rS:Code:=Tryz.f125.body.getD .skip
def vJ:=AB 60 [.code rS]
def vI:=AB 60 (Ay vJ)
def QO:=Ad 10 (AL vI)
def Wl:=AB 60 (QO)
def rv:=AB 60 (AG Wl)
def Wj:=AB 60 (AL Wl)
def ru:=AB 60 (AG Wj)
def Wi:=AB 60 (AL Wj)
def jY:=AB 60 (AG Wi)
def rt:=AB 60 (AE jY)
def Wh:=AB 60 (AL Wi)
def jX:=AB 60 (AG Wh)
def jW:=AB 60 (AG jX)
def oc:=AB 60 (AE jW)
def S3:=AB 60 (AL Wh)
def aG:=AB 60 (AG S3)
def oa:=AB 60 (AE aG)
def S2:=AB 60 (AL S3)
def aE:=AB 60 (AG S2)
def S0:=AB 60 (AE aE)
def aD:=AB 60 (AG S0)
def aC:=AB 60 (AE aD)
def oZ:=AB 60 (AE aC)
def aB:=AB 60 (AL S0)
def oY:=AB 60 (AE aB)
def Sz:=AB 60 (AL S2)
def aA:=AB 60 (AG Sz)
def Z9:=Ad 30 (AG aA)
def oX:=AB 60 (AP Z9)
def Sy:=AB 60 (AL Sz)
def Z5:=AB 60 (AG Sy)
def Z0:=Ad 30 (AG Z5)
def oW:=AB 60 (AP Z0)
def Sx:=AB 60 (AL Sy)
def Zz:=AB 60 (AG Sx)
def Zy:=Ad 30 (AG Zz)
def oV:=AB 60 (AP Zy)
def Sw:=AB 60 (AL Sx)
def Zx:=Ad 30 (AG Sw)
def oU:=AB 60 (AP Zx)
def Sv:=AB 60 (AL Sw)
def Zw:=AB 60 (AG Sv)
def Zv:=AB 60 (AG Zw)
def oT:=AB 60 (AE Zv)
def Su:=AB 60 (AL Sv)
def Zu:=AB 60 (AG Su)
def oR:=AB 60 (AE Zu)
def Ss:=AB 60 (AL Su)
def Zt:=AB 60 (AG Ss)
def Zs:=Ad 36 (AG Zt)
def oQ:=AB 60 (AP Zs)
def Sr:=AB 60 (AL Ss)
def Zr:=Ad 36 (AG Sr)
def oP:=AB 60 (AP Zr)
def Sq:=AB 60 (AL Sr)
def Zq:=Ad 38 (AG Sq)
def oO:=AB 60 (AP Zq)
def So:=AB 60 (AL Sq)
def Zp:=AB 60 (AG So)
def Sn:=Ad 41 (AG Zp)
def OC:Array Oper:=(C6 Sn).getD #[]
def mA:Wr:=[(141,0),(142,1),(143,2),(144,3),(145,4),(146,5),(147,6),(148,7),(149,8),(150,9)]
def oN:=AB 60 (AP Sn)
def Sm:=AB 60 (AL So)
def Sl:=Ad 41 (AG Sm)
def Lk:Array Oper:=(C6 Sl).getD #[]
def Zd:Wr:=[(141,0),(142,1),(143,2),(144,3),(145,4),(146,5),(147,6),(148,7),(149,8),(150,9)]
def oM:=AB 60 (AP Sl)
def Sk:=AB 60 (AL Sm)
def Sj:=Ad 43 (AG Sk)
def OB:Array Oper:=(C6 Sj).getD #[]
def l9:Wr:=[(153,0),(154,1),(155,2),(156,3),(157,4),(158,5),(159,6),(160,7)]
def oL:=AB 60 (AP Sj)
def Si:=AB 60 (AL Sk)
def Sh:=Ad 45 (AG Si)
def OA:Array Oper:=(C6 Sh).getD #[]
def l8:Wr:=[(163,0),(164,1),(165,2),(166,3),(167,4),(168,5),(169,6),(170,7),(171,8)]
def oK:=AB 60 (AP Sh)
def Sg:=AB 60 (AL Si)
def Zo:=AB 60 (AG Sg)
def Sf:=AB 60 (AE Zo)
def Zn:=AB 60 (AG Sf)
def Zm:=AB 60 (AE Zn)
def oJ:=AB 60 (AE Zm)
def Zl:=AB 60 (AL Sf)
def oI:=AB 60 (AE Zl)
def Se:=AB 60 (AL Sg)
def Zk:=Ad 52 (AG Se)
def oH:=AB 60 (AP Zk)
def oG:=AB 60 (AL Se)
def Jq (r:JY):Value:=.tuple #[.agg ⟨[.bool (r.1),D (r.2.1),D (r.2.2.1),D (r.2.2.2.1)]⟩,D (r.2.2.2.2)]
theorem Jr {R:Ending→World→Prop} (ns ss ps:List Df) (x:Ex) (a b k2:Bool×Int×Int×Int) (z0 y0 i0 pA:Option Addr) (b1 a1 w0 pk pc g2 g3 g4 g6:Nat) (E0:Nat→Value) (w we:World) (b3:rowsDf w z0 ns) (f7:ns.length≤4294967296) (a3:rowsDf w y0 ss) (c7:ss.length≤4294967296) (q1:rowsDf w i0 ps) (e7:ps.length≤4294967296) (K:Wk w we [⟨g2,0,[.slice z0 ns.length b1,.slice y0 ss.length a1,.slice i0 ps.length w0],174,true⟩,⟨g3,0,[D x.op,D x.num,D x.den,D x.mu,D x.hu,D x.du,.string ⟨⟨x.nm⟩⟩,D x.cnt,D x.md,.slice pA pk pc],32,true⟩,⟨g4,0,[.bool false,D 0,D 0,D 0],26,true⟩,⟨g6,0,[.bool (a.1),D a.2.1,D a.2.2.1,D a.2.2.2,.bool (b.1),D b.2.1,D b.2.2.1,D b.2.2.2,.bool (k2.1),D k2.2.1,D k2.2.2.1,D k2.2.2.2],188,true⟩] [] []) (p:∀ e w',(e=.returned (Jq (DB ns ss ps x a b k2))∧Below w.heap.size w w')→R e w'):At Tryz.prog 125 R QO (Fr 204 (Aw E0 [(2,.pointer (some ⟨g2,0,none⟩)),(3,.pointer (some ⟨g3,0,none⟩)),(4,.pointer (some ⟨g4,0,none⟩)),(6,.pointer (some ⟨g6,0,none⟩))])) we:=by
 let z14:List Value:=[.bool true,D 0,D 0,D 0]
 refine C8 Wl [⟨g2,0,[.slice z0 ns.length b1,.slice y0 ss.length a1,.slice i0 ps.length w0],174,true⟩,⟨g3,0,[D x.op,D x.num,D x.den,D x.mu,D x.hu,D x.du,.string ⟨⟨x.nm⟩⟩,D x.cnt,D x.md,.slice pA pk pc],32,true⟩,⟨g4,0,[.bool false,D 0,D 0,D 0],26,true⟩,⟨g6,0,[.bool (a.1),D a.2.1,D a.2.2.1,D a.2.2.2,.bool (b.1),D b.2.1,D b.2.2.1,D b.2.2.2,.bool (k2.1),D k2.2.1,D k2.2.2.1,D k2.2.2.2],188,true⟩,⟨we.heap.size,0,z14,26,true⟩] K [(4,0),(1,0)] fun w1 K1=>?_
 refine AM (x.op == 1) (fun z=>?_) (fun z=>?_)
 ·refine BQ rv K1 [(1,3),(2,0)] fun w3 K2=>?_
  exact Ab K2 (2,0) (.tuple #[.agg ⟨[.bool false,D x.mu,D x.hu,D x.du]⟩,D 0]) (p _ _ ⟨by unfold DB; rw [z] <;> rfl,K2.B⟩)
 ·refine AC Wj K1 [] fun w4 K3=>?_
  refine AM (x.op == 2) (fun c5=>?_) (fun c5=>?_)
  ·refine BQ ru K3 [(4,0),(2,0)] fun w6 K4=>?_
   exact Ab K4 (2,0) (.tuple #[.agg ⟨z14⟩,D 0]) (p _ _ ⟨by unfold DB; rw [z,c5] <;> rfl,K4.B⟩)
  ·refine AC Wi K3 [] fun w7 K5=>?_
   refine AM (x.op == 3) (fun c8=>?_) (fun c8=>?_)
   ·refine AC jY K5 [(0,0),(1,6)] fun w9 K6=>?_
    refine Ap K6 (L0 z0 ns b1 x.nm w9 (b3.below K6.B) (by first | assumption | omega | (simp <;> omega))) fun w10 K7=>?_
    refine BQ rt K7 [(2,0)] fun w11 K8=>?_
    exact Ab K8 (2,0) (Po (Cv ns x.nm)) (p _ _ ⟨by unfold DB; rw [z,c5,c8] <;> rfl,K8.B⟩)
   ·refine AC Wh K5 [] fun w12 K9=>?_
    refine AM (x.op == 20) (fun g=>?_) (fun g=>?_)
    ·refine AC jX K9 [] fun w14 ks=>?_
     refine AM (x.op == 20) (fun _=>?_) (fun h=>nomatch h.symm.trans g)
     refine AC jW ks [(0,2),(1,6)] fun z6 v5=>?_
     refine Ap v5 (L0 i0 ps w0 x.nm z6 (q1.below v5.B) (by first | assumption | omega | (simp <;> omega))) fun w17 kn=>?_
     refine BQ oc kn [(2,0)] fun w18 t5=>?_
     exact Ab t5 (2,0) (Po (Cv ps x.nm)) (p _ _ ⟨by unfold DB; rw [z,c5,c8,g] <;> rfl,t5.B⟩)
    ·refine AC S3 K9 [] fun w19 s5=>?_
     refine AM (x.op == 21) (fun j=>?_) (fun j=>?_)
     ·refine AC aG s5 [(0,2),(1,6)] fun y6 r5=>?_
      refine Ap r5 (L0 i0 ps w0 x.nm y6 (q1.below r5.B) (by first | assumption | omega | (simp <;> omega))) fun w22 kl=>?_
      refine BQ oa kl [(2,0)] fun w23 q5=>?_
      exact Ab q5 (2,0) (Po (Cv ps x.nm)) (p _ _ ⟨by unfold DB; rw [z,c5,c8,g,j] <;> rfl,q5.B⟩)
     ·refine AC S2 s5 [] fun w24 m5=>?_
      refine AM (x.op == 4) (fun l=>?_) (fun l=>?_)
      ·refine AC aE m5 [(0,1),(1,6)] fun u6 k5=>?_
       refine Ap k5 (L0 y0 ss a1 x.nm u6 (a3.below k5.B) (by first | assumption | omega | (simp <;> omega))) fun w27 kc=>?_
       refine BQ S0 kc [(5,0)] fun w28 i5=>?_
       refine AM ((Cv ss x.nm).2.2.2.2 == 0) (fun e2=>?_) (fun e2=>?_)
       ·refine AC aD i5 [(3,0)] fun r6 ka=>?_
        refine Ap ka (KC a.1 a.2.1 a.2.2.1 a.2.2.2 0 0 0 r6) fun w31 qs=>?_
        refine AC aC qs [(5,0)] fun q6 z9=>?_
        refine Ap z9 (DO ((Cv ss x.nm).1) ((Cv ss x.nm).2.1) ((Cv ss x.nm).2.2.1) ((Cv ss x.nm).2.2.2.1) (Dh a.1 a.2.1 a.2.2.1 a.2.2.2 0 0 0) q6) fun w33 y9=>?_
        refine BQ oZ y9 [(2,0)] fun w34 g5=>?_
        exact Ab g5 (2,0) (Bn (AV ((Cv ss x.nm).1) ((Cv ss x.nm).2.1) ((Cv ss x.nm).2.2.1) ((Cv ss x.nm).2.2.2.1) (Dh a.1 a.2.1 a.2.2.1 a.2.2.2 0 0 0))) (p _ _ ⟨by unfold DB; rw [z,c5,c8,g,j,l,e2] <;> rfl,g5.B⟩)
       ·refine AC aB i5 [(5,0)] fun m6 v9=>?_
        refine Ap v9 (DO ((Cv ss x.nm).1) ((Cv ss x.nm).2.1) ((Cv ss x.nm).2.2.1) ((Cv ss x.nm).2.2.2.1) ((Cv ss x.nm).2.2.2.2) m6) fun w36 t9=>?_
        refine BQ oY t9 [(2,0)] fun w37 f5=>?_
        exact Ab f5 (2,0) (Bn (AV ((Cv ss x.nm).1) ((Cv ss x.nm).2.1) ((Cv ss x.nm).2.2.1) ((Cv ss x.nm).2.2.2.1) ((Cv ss x.nm).2.2.2.2))) (p _ _ ⟨by unfold DB; rw [z,c5,c8,g,j,l,e2] <;> rfl,f5.B⟩)
      ·refine AC Sz m5 [] fun w38 e5=>?_
       refine AM (x.op == 5) (fun m=>?_) (fun m=>?_)
       ·refine AC aA e5 [] fun w40 r9=>?_
        refine AM (x.op == 5) (fun _=>?_) (fun h=>nomatch h.symm.trans m)
        refine Al 30 Z9 r9 [] fun w42 d5=>?_
        let z15:=BD a.1 a.2.1 a.2.2.1 a.2.2.2 b.1 b.2.1 b.2.2.1 b.2.2.2
        refine JX d5 [0,1,2,3,4,5,6,7,8,9] [(1,3,0),(3,3,0),(5,3,4)] [⟨6,[(96,.agg ⟨[.bool (a.1),D a.2.1,D a.2.2.1,D a.2.2.2]⟩),(98,.agg ⟨[.bool (b.1),D b.2.1,D b.2.2.1,D b.2.2.2]⟩)],D z15,true⟩,⟨7,[(94,.agg ⟨[.bool (a.1),D a.2.1,D a.2.2.1,D a.2.2.2]⟩),(99,D z15)],Bn (AV a.1 a.2.1 a.2.2.1 a.2.2.2 z15),true⟩] [(10,2,0),(11,0,0)] d5.G (fun sp d=>?_) fun zh w43 q9=>?_
        ·simp only [List.mem_cons,List.not_mem_nil,or_false] at d
         rcases d with rfl | rfl
         ·exact AX 153 [.tmp 96,.tmp 98] [.agg ⟨[.bool (a.1),D a.2.1,D a.2.2.1,D a.2.2.2]⟩,.agg ⟨[.bool (b.1),D b.2.1,D b.2.2.1,D b.2.2.2]⟩] (fun _=>by kernel_rfl) fun hc u hu=>AR hu (Ff a.1 a.2.1 a.2.2.1 a.2.2.2 b.1 b.2.1 b.2.2.1 b.2.2.2 u)
         ·exact AX 152 [.tmp 94,.tmp 99] [.agg ⟨[.bool (a.1),D a.2.1,D a.2.2.1,D a.2.2.2]⟩,D z15] (fun _=>by kernel_rfl) fun hc u hu=>AR hu (DO a.1 a.2.1 a.2.2.1 a.2.2.2 z15 u)
        refine AC oX q9 [] fun w44 b5=>?_
        exact Ab b5 (2,0) (Bn (AV a.1 a.2.1 a.2.2.1 a.2.2.2 z15)) (p _ _ ⟨by unfold DB; rw [z,c5,c8,g,j,l,m] <;> rfl,b5.B⟩)
       ·refine AC Sy e5 [] fun w45 a5=>?_
        refine AM (x.op == 6) (fun n=>?_) (fun n=>?_)
        ·refine AC Z5 a5 [] fun w47 o9=>?_
         refine AM (x.op == 6) (fun _=>?_) (fun h=>nomatch h.symm.trans n)
         refine Al 30 Z0 o9 [] fun w49 z4=>?_
         let z16:=BD a.1 a.2.1 a.2.2.1 a.2.2.2 b.1 b.2.1 b.2.2.1 b.2.2.2
         refine JX z4 [0,1,2,3,4,5,6,7,8,9] [(1,3,0),(3,3,0),(5,3,4)] [⟨6,[(96,.agg ⟨[.bool (a.1),D a.2.1,D a.2.2.1,D a.2.2.2]⟩),(98,.agg ⟨[.bool (b.1),D b.2.1,D b.2.2.1,D b.2.2.2]⟩)],D z16,true⟩,⟨7,[(94,.agg ⟨[.bool (a.1),D a.2.1,D a.2.2.1,D a.2.2.2]⟩),(99,D z16)],Bn (AV a.1 a.2.1 a.2.2.1 a.2.2.2 z16),true⟩] [(10,2,0),(11,0,0)] z4.G (fun sp d=>?_) fun zg wz n9=>?_
         ·simp only [List.mem_cons,List.not_mem_nil,or_false] at d
          rcases d with rfl | rfl
          ·exact AX 153 [.tmp 96,.tmp 98] [.agg ⟨[.bool (a.1),D a.2.1,D a.2.2.1,D a.2.2.2]⟩,.agg ⟨[.bool (b.1),D b.2.1,D b.2.2.1,D b.2.2.2]⟩] (fun _=>by kernel_rfl) fun hc u hu=>AR hu (Ff a.1 a.2.1 a.2.2.1 a.2.2.2 b.1 b.2.1 b.2.2.1 b.2.2.2 u)
          ·exact AX 152 [.tmp 94,.tmp 99] [.agg ⟨[.bool (a.1),D a.2.1,D a.2.2.1,D a.2.2.2]⟩,D z16] (fun _=>by kernel_rfl) fun hc u hu=>AR hu (DO a.1 a.2.1 a.2.2.1 a.2.2.2 z16 u)
         refine AC oW n9 [] fun wy y4=>?_
         exact Ab y4 (2,0) (Bn (AV a.1 a.2.1 a.2.2.1 a.2.2.2 z16)) (p _ _ ⟨by unfold DB; rw [z,c5,c8,g,j,l,m,n] <;> rfl,y4.B⟩)
        ·refine AC Sx a5 [] fun wx v4=>?_
         refine AM (x.op == 14) (fun o=>?_) (fun o=>?_)
         ·refine AC Zz v4 [] fun ww k9=>?_
          refine AM (x.op == 14) (fun _=>?_) (fun h=>nomatch h.symm.trans o)
          refine Al 30 Zy k9 [] fun wv u4=>?_
          let z17:=BD a.1 a.2.1 a.2.2.1 a.2.2.2 b.1 b.2.1 b.2.2.1 b.2.2.2
          refine JX u4 [0,1,2,3,4,5,6,7,8,9] [(1,3,0),(3,3,0),(5,3,4)] [⟨6,[(96,.agg ⟨[.bool (a.1),D a.2.1,D a.2.2.1,D a.2.2.2]⟩),(98,.agg ⟨[.bool (b.1),D b.2.1,D b.2.2.1,D b.2.2.2]⟩)],D z17,true⟩,⟨7,[(94,.agg ⟨[.bool (a.1),D a.2.1,D a.2.2.1,D a.2.2.2]⟩),(99,D z17)],Bn (AV a.1 a.2.1 a.2.2.1 a.2.2.2 z17),true⟩] [(10,2,0),(11,0,0)] u4.G (fun sp d=>?_) fun zf wr h9=>?_
          ·simp only [List.mem_cons,List.not_mem_nil,or_false] at d
           rcases d with rfl | rfl
           ·exact AX 153 [.tmp 96,.tmp 98] [.agg ⟨[.bool (a.1),D a.2.1,D a.2.2.1,D a.2.2.2]⟩,.agg ⟨[.bool (b.1),D b.2.1,D b.2.2.1,D b.2.2.2]⟩] (fun _=>by kernel_rfl) fun hc u hu=>AR hu (Ff a.1 a.2.1 a.2.2.1 a.2.2.2 b.1 b.2.1 b.2.2.1 b.2.2.2 u)
           ·exact AX 152 [.tmp 94,.tmp 99] [.agg ⟨[.bool (a.1),D a.2.1,D a.2.2.1,D a.2.2.2]⟩,D z17] (fun _=>by kernel_rfl) fun hc u hu=>AR hu (DO a.1 a.2.1 a.2.2.1 a.2.2.2 z17 u)
          refine AC oV h9 [] fun wp t4=>?_
          exact Ab t4 (2,0) (Bn (AV a.1 a.2.1 a.2.2.1 a.2.2.2 z17)) (p _ _ ⟨by unfold DB; rw [z,c5,c8,g,j,l,m,n,o] <;> rfl,t4.B⟩)
         ·refine AC Sw v4 [] fun wl s4=>?_
          refine AM (x.op == 15) (fun r=>?_) (fun r=>?_)
          ·refine Al 30 Zx s4 [] fun wk r4=>?_
           let z18:=BD a.1 a.2.1 a.2.2.1 a.2.2.2 b.1 b.2.1 b.2.2.1 b.2.2.2
           refine JX r4 [0,1,2,3,4,5,6,7,8,9] [(1,3,0),(3,3,0),(5,3,4)] [⟨6,[(96,.agg ⟨[.bool (a.1),D a.2.1,D a.2.2.1,D a.2.2.2]⟩),(98,.agg ⟨[.bool (b.1),D b.2.1,D b.2.2.1,D b.2.2.2]⟩)],D z18,true⟩,⟨7,[(94,.agg ⟨[.bool (a.1),D a.2.1,D a.2.2.1,D a.2.2.2]⟩),(99,D z18)],Bn (AV a.1 a.2.1 a.2.2.1 a.2.2.2 z18),true⟩] [(10,2,0),(11,0,0)] r4.G (fun sp d=>?_) fun ze wf f9=>?_
           ·simp only [List.mem_cons,List.not_mem_nil,or_false] at d
            rcases d with rfl | rfl
            ·exact AX 153 [.tmp 96,.tmp 98] [.agg ⟨[.bool (a.1),D a.2.1,D a.2.2.1,D a.2.2.2]⟩,.agg ⟨[.bool (b.1),D b.2.1,D b.2.2.1,D b.2.2.2]⟩] (fun _=>by kernel_rfl) fun hc u hu=>AR hu (Ff a.1 a.2.1 a.2.2.1 a.2.2.2 b.1 b.2.1 b.2.2.1 b.2.2.2 u)
            ·exact AX 152 [.tmp 94,.tmp 99] [.agg ⟨[.bool (a.1),D a.2.1,D a.2.2.1,D a.2.2.2]⟩,D z18] (fun _=>by kernel_rfl) fun hc u hu=>AR hu (DO a.1 a.2.1 a.2.2.1 a.2.2.2 z18 u)
           refine AC oU f9 [] fun wc q4=>?_
           exact Ab q4 (2,0) (Bn (AV a.1 a.2.1 a.2.2.1 a.2.2.2 z18)) (p _ _ ⟨by unfold DB; rw [z,c5,c8,g,j,l,m,n,o,r] <;> rfl,q4.B⟩)
          ·refine AC Sv s4 [] fun wa m4=>?_
           refine AM (x.op == 7) (fun q=>?_) (fun q=>?_)
           ·refine AC Zw m4 [] fun vs e9=>?_
            refine AM (x.op == 7) (fun _=>?_) (fun h=>nomatch h.symm.trans q)
            refine AC Zv e9 [(1,0),(3,0),(3,4)] fun k6 c9=>?_
            refine Ap c9 (Np x.op a.1 a.2.1 a.2.2.1 a.2.2.2 b.1 b.2.1 b.2.2.1 b.2.2.2 k6) fun vi b9=>?_
            refine BQ oT b9 [(2,0)] fun vd k4=>?_
            exact Ab k4 (2,0) (Mg (GB x.op a.1 a.2.1 a.2.2.1 a.2.2.2 b.1 b.2.1 b.2.2.1 b.2.2.2)) (p _ _ ⟨by unfold DB; rw [z,c5,c8,g,j,l,m,n,o,r,q] <;> rfl,k4.B⟩)
           ·refine AC Su m4 [] fun vc i4=>?_
            refine AM (x.op == 8) (fun v=>?_) (fun v=>?_)
            ·refine AC Zu i4 [(1,0),(3,0),(3,4)] fun f6 a9=>?_
             refine Ap a9 (Np x.op a.1 a.2.1 a.2.2.1 a.2.2.2 b.1 b.2.1 b.2.2.1 b.2.2.2 f6) fun zz z8=>?_
             refine BQ oR z8 [(2,0)] fun zy f4=>?_
             exact Ab f4 (2,0) (Mg (GB x.op a.1 a.2.1 a.2.2.1 a.2.2.2 b.1 b.2.1 b.2.2.1 b.2.2.2)) (p _ _ ⟨by unfold DB; rw [z,c5,c8,g,j,l,m,n,o,r,q,v] <;> rfl,f4.B⟩)
            ·refine AC Ss i4 [] fun zx e4=>?_
             refine AM (x.op == 9) (fun s=>?_) (fun s=>?_)
             ·refine AC Zt e4 [] fun zw y8=>?_
              refine AM (x.op == 9) (fun _=>?_) (fun h=>nomatch h.symm.trans s)
              refine Al 36 Zs y8 [] fun zv c4=>?_
              let z19:=BD a.1 a.2.1 a.2.2.1 a.2.2.2 b.1 b.2.1 b.2.2.1 b.2.2.2
              refine JX c4 [0,1,2,3,4,5,6,7,8] [(0,4,0),(2,3,0),(4,3,4)] [⟨5,[(120,.agg ⟨[.bool (a.1),D a.2.1,D a.2.2.1,D a.2.2.2]⟩),(122,.agg ⟨[.bool (b.1),D b.2.1,D b.2.2.1,D b.2.2.2]⟩)],D z19,true⟩,⟨6,[(118,.agg ⟨z14⟩),(123,D z19)],Bn (AV true 0 0 0 z19),true⟩] [(9,2,0),(10,0,0)] c4.G (fun sp d=>?_) fun zd zu w8=>?_
              ·simp only [List.mem_cons,List.not_mem_nil,or_false] at d
               rcases d with rfl | rfl
               ·exact AX 153 [.tmp 120,.tmp 122] [.agg ⟨[.bool (a.1),D a.2.1,D a.2.2.1,D a.2.2.2]⟩,.agg ⟨[.bool (b.1),D b.2.1,D b.2.2.1,D b.2.2.2]⟩] (fun _=>by kernel_rfl) fun hc u hu=>AR hu (Ff a.1 a.2.1 a.2.2.1 a.2.2.2 b.1 b.2.1 b.2.2.1 b.2.2.2 u)
               ·exact AX 152 [.tmp 118,.tmp 123] [.agg ⟨z14⟩,D z19] (fun _=>by kernel_rfl) fun hc u hu=>AR hu (DO true 0 0 0 z19 u)
              refine AC oQ w8 [] fun zt b4=>?_
              exact Ab b4 (2,0) (Bn (AV true 0 0 0 z19)) (p _ _ ⟨by unfold DB; rw [z,c5,c8,g,j,l,m,n,o,r,q,v,s] <;> rfl,b4.B⟩)
             ·refine AC Sr e4 [] fun zs a4=>?_
              refine AM (x.op == 10) (fun b0=>?_) (fun b0=>?_)
              ·refine Al 36 Zr a4 [] fun zr z3=>?_
               let z20:=BD a.1 a.2.1 a.2.2.1 a.2.2.2 b.1 b.2.1 b.2.2.1 b.2.2.2
               refine JX z3 [0,1,2,3,4,5,6,7,8] [(0,4,0),(2,3,0),(4,3,4)] [⟨5,[(120,.agg ⟨[.bool (a.1),D a.2.1,D a.2.2.1,D a.2.2.2]⟩),(122,.agg ⟨[.bool (b.1),D b.2.1,D b.2.2.1,D b.2.2.2]⟩)],D z20,true⟩,⟨6,[(118,.agg ⟨z14⟩),(123,D z20)],Bn (AV true 0 0 0 z20),true⟩] [(9,2,0),(10,0,0)] z3.G (fun sp d=>?_) fun zc zq u8=>?_
               ·simp only [List.mem_cons,List.not_mem_nil,or_false] at d
                rcases d with rfl | rfl
                ·exact AX 153 [.tmp 120,.tmp 122] [.agg ⟨[.bool (a.1),D a.2.1,D a.2.2.1,D a.2.2.2]⟩,.agg ⟨[.bool (b.1),D b.2.1,D b.2.2.1,D b.2.2.2]⟩] (fun _=>by kernel_rfl) fun hc u hu=>AR hu (Ff a.1 a.2.1 a.2.2.1 a.2.2.2 b.1 b.2.1 b.2.2.1 b.2.2.2 u)
                ·exact AX 152 [.tmp 118,.tmp 123] [.agg ⟨z14⟩,D z20] (fun _=>by kernel_rfl) fun hc u hu=>AR hu (DO true 0 0 0 z20 u)
               refine AC oP u8 [] fun zp y3=>?_
               exact Ab y3 (2,0) (Bn (AV true 0 0 0 z20)) (p _ _ ⟨by unfold DB; rw [z,c5,c8,g,j,l,m,n,o,r,q,v,s,b0] <;> rfl,y3.B⟩)
              ·refine AC Sq a4 [] fun zo v3=>?_
               refine AM (x.op == 11) (fun e0=>?_) (fun e0=>?_)
               ·refine Al 38 Zq v3 [] fun zn u3=>?_
                let z21:=GV a.1 a.2.1 a.2.2.1 a.2.2.2 b.1 b.2.1 b.2.2.1 b.2.2.2
                refine JX u3 [0,1,2,3,4,5,6,7,8] [(0,4,0),(2,3,0),(4,3,4)] [⟨5,[(131,.agg ⟨[.bool (a.1),D a.2.1,D a.2.2.1,D a.2.2.2]⟩),(133,.agg ⟨[.bool (b.1),D b.2.1,D b.2.2.1,D b.2.2.2]⟩)],D z21,true⟩,⟨6,[(129,.agg ⟨z14⟩),(134,D z21)],Bn (AV true 0 0 0 z21),true⟩] [(9,2,0),(10,0,0)] u3.G (fun sp d=>?_) fun zb zm r8=>?_
                ·simp only [List.mem_cons,List.not_mem_nil,or_false] at d
                 rcases d with rfl | rfl
                 ·exact AX 155 [.tmp 131,.tmp 133] [.agg ⟨[.bool (a.1),D a.2.1,D a.2.2.1,D a.2.2.2]⟩,.agg ⟨[.bool (b.1),D b.2.1,D b.2.2.1,D b.2.2.2]⟩] (fun _=>by kernel_rfl) fun hc u hu=>AR hu (RO a.1 a.2.1 a.2.2.1 a.2.2.2 b.1 b.2.1 b.2.2.1 b.2.2.2 u)
                 ·exact AX 152 [.tmp 129,.tmp 134] [.agg ⟨z14⟩,D z21] (fun _=>by kernel_rfl) fun hc u hu=>AR hu (DO true 0 0 0 z21 u)
                refine AC oO r8 [] fun zl t3=>?_
                exact Ab t3 (2,0) (Bn (AV true 0 0 0 z21)) (p _ _ ⟨by unfold DB; rw [z,c5,c8,g,j,l,m,n,o,r,q,v,s,b0,e0] <;> rfl,t3.B⟩)
               ·refine AC So v3 [] fun zk s3=>?_
                refine AM (x.op == 12) (fun d0=>?_) (fun d0=>?_)
                ·refine AC Zp s3 [] fun zj q8=>?_
                 refine AM (x.op == 12) (fun _=>?_) (fun h=>nomatch h.symm.trans d0)
                 refine Al 41 Sn q8 [] fun m1 p1=>?_
                 refine C4 OC 12 ?_
                 let z22:=Av [(a.1,a.2.1,a.2.2.1,a.2.2.2),(b.1,b.2.1,b.2.2.1,b.2.2.2)]
                 let z10:=AV true 0 0 0 z22
                 let z27:List Value:=[.bool (z10.1),D (z10.2.1),D (z10.2.2.1),D (z10.2.2.2.1)]
                 refine CG (md:=.any) (fuel:=2) (L:=[AN 0 [] (.agg ⟨z14⟩),AN 1 [] (.pointer (some ⟨g6,0,none⟩)),AN 2 [1] (.agg ⟨[.bool (a.1),D a.2.1,D a.2.2.1,D a.2.2.2]⟩),AN 3 [] (.pointer (some ⟨g6,4,none⟩)),AN 4 [3] (.agg ⟨[.bool (b.1),D b.2.1,D b.2.2.1,D b.2.2.2]⟩),⟨5,[2,4],[5],J3 2 4 [[.bool (a.1),D a.2.1,D a.2.2.1,D a.2.2.2],[.bool (b.1),D b.2.1,D b.2.2.1,D b.2.2.2]]⟩,AN 6 [5] (D z22),AN 7 [0,6] (Bn z10),AN 8 [7] (.agg ⟨z27⟩),AN 9 [7] (D (z10.2.2.2.2))]) (W:=mA) (C:=fun u=>Below m1.heap.size m1 u) (Ext:=Ck) (Below.refl _ _).drew Ck.refl (fun _ _ _=>Ck.trans) ⟨?_,?_,?_,?_,?_,?_,?_,?_,?_,?_,trivial⟩ rfl ?_
                 ·refine ⟨fun _ _ _ _ _ h=>h,fun c u hu hb=>?_⟩
                  exact AH.knownE [] (by kernel_rfl) trivial (AH.reads ⟨0,_,(4,0),[]⟩ (Az p1.G hu) (.agg ⟨z14⟩) ⟨hu,.refl _,rfl⟩)
                 ·refine ⟨fun _ _ _ _ _ h=>h,fun c u hu hb=>?_⟩
                  exact AH.knownE [] (by kernel_rfl) trivial (AH.reads ⟨0,[],(0,0),[]⟩ (fun e he=>by cases he) (.pointer (some ⟨g6,0,none⟩)) ⟨hu,.refl _,rfl⟩)
                 ·refine ⟨fun _ _ _ _ _ h=>h,fun c u hu hb=>?_⟩
                  obtain ⟨h1,_⟩:=hb
                  exact AH.knownE [(142,1,.pointer (some ⟨g6,0,none⟩))] (by kernel_rfl) ⟨(List.cons.inj h1).1,trivial⟩ (AH.reads ⟨0,_,(3,0),[]⟩ (Az p1.G hu) (.agg ⟨[.bool (a.1),D a.2.1,D a.2.2.1,D a.2.2.2]⟩) ⟨hu,.refl _,rfl⟩)
                 ·refine ⟨fun _ _ _ _ _ h=>h,fun c u hu hb=>?_⟩
                  exact AH.knownE [] (by kernel_rfl) trivial (AH.reads ⟨0,[],(0,0),[]⟩ (fun e he=>by cases he) (.pointer (some ⟨g6,4,none⟩)) ⟨hu,.refl _,rfl⟩)
                 ·refine ⟨fun _ _ _ _ _ h=>h,fun c u hu hb=>?_⟩
                  obtain ⟨h3,_⟩:=hb
                  exact AH.knownE [(144,3,.pointer (some ⟨g6,4,none⟩))] (by kernel_rfl) ⟨(List.cons.inj h3).1,trivial⟩ (AH.reads ⟨0,_,(3,4),[]⟩ (Az p1.G hu) (.agg ⟨[.bool (b.1),D b.2.1,D b.2.2.1,D b.2.2.2]⟩) ⟨hu,.refl _,rfl⟩)
                 ·refine ⟨fun _ _ _ _ he h=>h.keep he,fun c u hu hb=>?_⟩
                  obtain ⟨h2,h4,_⟩:=hb
                  refine AH.knownE [(143,2,.agg ⟨[.bool (a.1),D a.2.1,D a.2.2.1,D a.2.2.2]⟩),(145,4,.agg ⟨[.bool (b.1),D b.2.1,D b.2.2.1,D b.2.2.2]⟩)] (by kernel_rfl) ⟨(List.cons.inj h2).1,(List.cons.inj h4).1,trivial⟩ (AH.runsK ⟨u.heap.size,[],(0,0),[]⟩ ⟨u.heap.size + 1,[⟨u.heap.size,0,[.bool (a.1),D a.2.1,D a.2.2.1,D a.2.2.2,.bool (b.1),D b.2.1,D b.2.2.1,D b.2.2.2],26,true⟩],(0,0),[]⟩ (.value (.slice (some ⟨u.heap.size,0,none⟩) 2 2)) (.slice (some ⟨u.heap.size,0,none⟩) 2 2) (.inl rfl) (Br u) rfl fun u2 hL hK=>?_)
                  have Bq:Below u.heap.size u u2:=hK.below (Nat.le_refl _) (fun k p=>by cases p)
                  exact ⟨hu.trans (Bq.mono hu.size),Bq,⟨_,rfl,F2 (rs:=[[.bool (a.1),D a.2.1,D a.2.2.1,D a.2.2.2],[.bool (b.1),D b.2.1,D b.2.2.1,D b.2.2.2]]) (by simp) (hL.sat.good _ (List.mem_singleton.2 rfl))⟩⟩
                 ·refine ⟨fun _ _ _ _ _ h=>h,fun c u hu hb=>?_⟩
                  obtain ⟨h5,_⟩:=hb
                  obtain ⟨q0,c1,a2⟩:=h5
                  refine AH.knownE [(146,5,.slice (some ⟨q0,0,none⟩) 2 2)] (by kernel_rfl) ⟨(List.cons.inj c1).1,trivial⟩ (AH.call (f:=156) [.tmp 146] (args:=[.slice (some ⟨q0,0,none⟩) 2 2]) (ats:=#[90]) rfl (by kernel_rfl) (BW _ _) ((Ke (some ⟨q0,0,none⟩) [(a.1,a.2.1,a.2.2.1,a.2.2.2),(b.1,b.2.1,b.2.2.1,b.2.2.2)] 2 u a2 (by first | assumption | omega | (simp <;> omega))).mono fun en u2 hh=>?_))
                  obtain ⟨rfl,bb⟩:=hh
                  exact ⟨_,rfl,hu.trans (bb.mono hu.size),bb,rfl⟩
                 ·refine ⟨fun _ _ _ _ _ h=>h,fun c u hu hb=>?_⟩
                  obtain ⟨h0,h6,_⟩:=hb
                  refine AH.knownE [(141,0,.agg ⟨z14⟩),(147,6,D z22)] (by kernel_rfl) ⟨(List.cons.inj h0).1,(List.cons.inj h6).1,trivial⟩ (AH.call (f:=152) [.tmp 141,.tmp 147] (args:=[.agg ⟨z14⟩,D z22]) (ats:=#[26,44]) rfl (by kernel_rfl) (BW _ _) ((DO true 0 0 0 z22 u).mono fun en u2 hh=>?_))
                  obtain ⟨rfl,bb⟩:=hh
                  exact ⟨_,rfl,hu.trans (bb.mono hu.size),bb,rfl⟩
                 ·refine ⟨fun _ _ _ _ _ h=>h,fun c u hu hb=>?_⟩
                  obtain ⟨h7,_⟩:=hb
                  exact AH.knownE [(148,7,Bn z10)] (by kernel_rfl) ⟨(List.cons.inj h7).1,trivial⟩ (AH.reads ⟨0,[],(0,0),[]⟩ (fun e he=>by cases he) (.agg ⟨z27⟩) ⟨hu,.refl _,rfl⟩)
                 ·refine ⟨fun _ _ _ _ _ h=>h,fun c u hu hb=>?_⟩
                  obtain ⟨h7,_⟩:=hb
                  exact AH.knownE [(148,7,Bn z10)] (by kernel_rfl) ⟨(List.cons.inj h7).1,trivial⟩ (AH.reads ⟨0,[],(0,0),[]⟩ (fun e he=>by cases he) (D (z10.2.2.2.2)) ⟨hu,.refl _,rfl⟩)
                 intro c e6 f2 _ a0
                 replace f2:Below m1.heap.size m1 e6:=f2
                 obtain ⟨x0,x1,x2,x3,x4,x5,x6,x7,x8,x9,_⟩:=a0
                 have k8:=p1.below f2
                 refine DN [(4,.pointer (some ⟨g4,0,none⟩)),(149,c 8),(150,c 9)] fun E98=>?_
                 rw [show c 8=.agg ⟨z27⟩ from (List.cons.inj x8).1]
                 rw [show c 9=D (z10.2.2.2.2) from (List.cons.inj x9).1]
                 refine EB (i:=10) k8 (OC.getD 10 default) (2,0) (undef) fun zi h8=>?_
                 refine EB (i:=11) h8 (OC.getD 11 default) (0,0) (D (z10.2.2.2.2)) fun xx f8=>?_
                 refine Cy ⟨rfl,At.mid ?_⟩
                 refine AC oN f8 [] fun xw r3=>?_
                 exact Ab r3 (2,0) (Bn z10) (p _ _ ⟨by unfold DB; rw [z,c5,c8,g,j,l,m,n,o,r,q,v,s,b0,e0,d0] <;> rfl,r3.B⟩)
                ·refine AC Sm s3 [] fun xv q3=>?_
                 refine AM (x.op == 13) (fun y=>?_) (fun y=>?_)
                 ·refine Al 41 Sl q3 [] fun v0 n1=>?_
                  refine C4 Lk 12 ?_
                  let z23:=Av [(a.1,a.2.1,a.2.2.1,a.2.2.2),(b.1,b.2.1,b.2.2.1,b.2.2.2)]
                  let z11:=AV true 0 0 0 z23
                  let z28:List Value:=[.bool (z11.1),D (z11.2.1),D (z11.2.2.1),D (z11.2.2.2.1)]
                  refine CG (md:=.any) (fuel:=2) (L:=[AN 0 [] (.agg ⟨z14⟩),AN 1 [] (.pointer (some ⟨g6,0,none⟩)),AN 2 [1] (.agg ⟨[.bool (a.1),D a.2.1,D a.2.2.1,D a.2.2.2]⟩),AN 3 [] (.pointer (some ⟨g6,4,none⟩)),AN 4 [3] (.agg ⟨[.bool (b.1),D b.2.1,D b.2.2.1,D b.2.2.2]⟩),⟨5,[2,4],[5],J3 2 4 [[.bool (a.1),D a.2.1,D a.2.2.1,D a.2.2.2],[.bool (b.1),D b.2.1,D b.2.2.1,D b.2.2.2]]⟩,AN 6 [5] (D z23),AN 7 [0,6] (Bn z11),AN 8 [7] (.agg ⟨z28⟩),AN 9 [7] (D (z11.2.2.2.2))]) (W:=Zd) (C:=fun u=>Below v0.heap.size v0 u) (Ext:=Ck) (Below.refl _ _).drew Ck.refl (fun _ _ _=>Ck.trans) ⟨?_,?_,?_,?_,?_,?_,?_,?_,?_,?_,trivial⟩ rfl ?_
                  ·refine ⟨fun _ _ _ _ _ h=>h,fun c u hu hb=>?_⟩
                   exact AH.knownE [] (by kernel_rfl) trivial (AH.reads ⟨0,_,(4,0),[]⟩ (Az n1.G hu) (.agg ⟨z14⟩) ⟨hu,.refl _,rfl⟩)
                  ·refine ⟨fun _ _ _ _ _ h=>h,fun c u hu hb=>?_⟩
                   exact AH.knownE [] (by kernel_rfl) trivial (AH.reads ⟨0,[],(0,0),[]⟩ (fun e he=>by cases he) (.pointer (some ⟨g6,0,none⟩)) ⟨hu,.refl _,rfl⟩)
                  ·refine ⟨fun _ _ _ _ _ h=>h,fun c u hu hb=>?_⟩
                   obtain ⟨h1,_⟩:=hb
                   exact AH.knownE [(142,1,.pointer (some ⟨g6,0,none⟩))] (by kernel_rfl) ⟨(List.cons.inj h1).1,trivial⟩ (AH.reads ⟨0,_,(3,0),[]⟩ (Az n1.G hu) (.agg ⟨[.bool (a.1),D a.2.1,D a.2.2.1,D a.2.2.2]⟩) ⟨hu,.refl _,rfl⟩)
                  ·refine ⟨fun _ _ _ _ _ h=>h,fun c u hu hb=>?_⟩
                   exact AH.knownE [] (by kernel_rfl) trivial (AH.reads ⟨0,[],(0,0),[]⟩ (fun e he=>by cases he) (.pointer (some ⟨g6,4,none⟩)) ⟨hu,.refl _,rfl⟩)
                  ·refine ⟨fun _ _ _ _ _ h=>h,fun c u hu hb=>?_⟩
                   obtain ⟨h3,_⟩:=hb
                   exact AH.knownE [(144,3,.pointer (some ⟨g6,4,none⟩))] (by kernel_rfl) ⟨(List.cons.inj h3).1,trivial⟩ (AH.reads ⟨0,_,(3,4),[]⟩ (Az n1.G hu) (.agg ⟨[.bool (b.1),D b.2.1,D b.2.2.1,D b.2.2.2]⟩) ⟨hu,.refl _,rfl⟩)
                  ·refine ⟨fun _ _ _ _ he h=>h.keep he,fun c u hu hb=>?_⟩
                   obtain ⟨h2,h4,_⟩:=hb
                   refine AH.knownE [(143,2,.agg ⟨[.bool (a.1),D a.2.1,D a.2.2.1,D a.2.2.2]⟩),(145,4,.agg ⟨[.bool (b.1),D b.2.1,D b.2.2.1,D b.2.2.2]⟩)] (by kernel_rfl) ⟨(List.cons.inj h2).1,(List.cons.inj h4).1,trivial⟩ (AH.runsK ⟨u.heap.size,[],(0,0),[]⟩ ⟨u.heap.size + 1,[⟨u.heap.size,0,[.bool (a.1),D a.2.1,D a.2.2.1,D a.2.2.2,.bool (b.1),D b.2.1,D b.2.2.1,D b.2.2.2],26,true⟩],(0,0),[]⟩ (.value (.slice (some ⟨u.heap.size,0,none⟩) 2 2)) (.slice (some ⟨u.heap.size,0,none⟩) 2 2) (.inl rfl) (Br u) rfl fun u2 hL hK=>?_)
                   have Bq:Below u.heap.size u u2:=hK.below (Nat.le_refl _) (fun k p=>by cases p)
                   exact ⟨hu.trans (Bq.mono hu.size),Bq,⟨_,rfl,F2 (rs:=[[.bool (a.1),D a.2.1,D a.2.2.1,D a.2.2.2],[.bool (b.1),D b.2.1,D b.2.2.1,D b.2.2.2]]) (by simp) (hL.sat.good _ (List.mem_singleton.2 rfl))⟩⟩
                  ·refine ⟨fun _ _ _ _ _ h=>h,fun c u hu hb=>?_⟩
                   obtain ⟨h5,_⟩:=hb
                   obtain ⟨q0,c1,a2⟩:=h5
                   refine AH.knownE [(146,5,.slice (some ⟨q0,0,none⟩) 2 2)] (by kernel_rfl) ⟨(List.cons.inj c1).1,trivial⟩ (AH.call (f:=156) [.tmp 146] (args:=[.slice (some ⟨q0,0,none⟩) 2 2]) (ats:=#[90]) rfl (by kernel_rfl) (BW _ _) ((Ke (some ⟨q0,0,none⟩) [(a.1,a.2.1,a.2.2.1,a.2.2.2),(b.1,b.2.1,b.2.2.1,b.2.2.2)] 2 u a2 (by first | assumption | omega | (simp <;> omega))).mono fun en u2 hh=>?_))
                   obtain ⟨rfl,bb⟩:=hh
                   exact ⟨_,rfl,hu.trans (bb.mono hu.size),bb,rfl⟩
                  ·refine ⟨fun _ _ _ _ _ h=>h,fun c u hu hb=>?_⟩
                   obtain ⟨h0,h6,_⟩:=hb
                   refine AH.knownE [(141,0,.agg ⟨z14⟩),(147,6,D z23)] (by kernel_rfl) ⟨(List.cons.inj h0).1,(List.cons.inj h6).1,trivial⟩ (AH.call (f:=152) [.tmp 141,.tmp 147] (args:=[.agg ⟨z14⟩,D z23]) (ats:=#[26,44]) rfl (by kernel_rfl) (BW _ _) ((DO true 0 0 0 z23 u).mono fun en u2 hh=>?_))
                   obtain ⟨rfl,bb⟩:=hh
                   exact ⟨_,rfl,hu.trans (bb.mono hu.size),bb,rfl⟩
                  ·refine ⟨fun _ _ _ _ _ h=>h,fun c u hu hb=>?_⟩
                   obtain ⟨h7,_⟩:=hb
                   exact AH.knownE [(148,7,Bn z11)] (by kernel_rfl) ⟨(List.cons.inj h7).1,trivial⟩ (AH.reads ⟨0,[],(0,0),[]⟩ (fun e he=>by cases he) (.agg ⟨z28⟩) ⟨hu,.refl _,rfl⟩)
                  ·refine ⟨fun _ _ _ _ _ h=>h,fun c u hu hb=>?_⟩
                   obtain ⟨h7,_⟩:=hb
                   exact AH.knownE [(148,7,Bn z11)] (by kernel_rfl) ⟨(List.cons.inj h7).1,trivial⟩ (AH.reads ⟨0,[],(0,0),[]⟩ (fun e he=>by cases he) (D (z11.2.2.2.2)) ⟨hu,.refl _,rfl⟩)
                  intro c w2 i1 _ a0
                  replace i1:Below v0.heap.size v0 w2:=i1
                  obtain ⟨x0,x1,x2,x3,x4,x5,x6,x7,x8,x9,_⟩:=a0
                  have e8:=n1.below i1
                  refine DN [(4,.pointer (some ⟨g4,0,none⟩)),(149,c 8),(150,c 9)] fun za=>?_
                  rw [show c 8=.agg ⟨z28⟩ from (List.cons.inj x8).1]
                  rw [show c 9=D (z11.2.2.2.2) from (List.cons.inj x9).1]
                  refine EB (i:=10) e8 (Lk.getD 10 default) (2,0) (undef) fun xu b8=>?_
                  refine EB (i:=11) b8 (Lk.getD 11 default) (0,0) (D (z11.2.2.2.2)) fun xt a8=>?_
                  refine Cy ⟨rfl,At.mid ?_⟩
                  refine AC oM a8 [] fun xs m3=>?_
                  exact Ab m3 (2,0) (Bn z11) (p _ _ ⟨by unfold DB; rw [z,c5,c8,g,j,l,m,n,o,r,q,v,s,b0,e0,d0,y] <;> rfl,m3.B⟩)
                 ·refine AC Sk q3 [] fun xr l3=>?_
                  refine AM (x.op == 17) (fun c0=>?_) (fun c0=>?_)
                  ·refine Al 43 Sj l3 [] fun t0 l2=>?_
                   refine C4 OB 10 ?_
                   let z25:=Av [(a.1,a.2.1,a.2.2.1,a.2.2.2)]
                   let z13:=AV true 0 0 0 z25
                   let z29:List Value:=[.bool (z13.1),D (z13.2.1),D (z13.2.2.1),D (z13.2.2.2.1)]
                   refine CG (md:=.any) (fuel:=2) (L:=[AN 0 [] (.agg ⟨z14⟩),AN 1 [] (.pointer (some ⟨g6,0,none⟩)),AN 2 [1] (.agg ⟨[.bool (a.1),D a.2.1,D a.2.2.1,D a.2.2.2]⟩),⟨3,[2],[3],J3 1 4 [[.bool (a.1),D a.2.1,D a.2.2.1,D a.2.2.2]]⟩,AN 4 [3] (D z25),AN 5 [0,4] (Bn z13),AN 6 [5] (.agg ⟨z29⟩),AN 7 [5] (D (z13.2.2.2.2))]) (W:=l9) (C:=fun u=>Below t0.heap.size t0 u) (Ext:=Ck) (Below.refl _ _).drew Ck.refl (fun _ _ _=>Ck.trans) ⟨?_,?_,?_,?_,?_,?_,?_,?_,trivial⟩ rfl ?_
                   ·refine ⟨fun _ _ _ _ _ h=>h,fun c u hu hb=>?_⟩
                    exact AH.knownE [] (by kernel_rfl) trivial (AH.reads ⟨0,_,(4,0),[]⟩ (Az l2.G hu) (.agg ⟨z14⟩) ⟨hu,.refl _,rfl⟩)
                   ·refine ⟨fun _ _ _ _ _ h=>h,fun c u hu hb=>?_⟩
                    exact AH.knownE [] (by kernel_rfl) trivial (AH.reads ⟨0,[],(0,0),[]⟩ (fun e he=>by cases he) (.pointer (some ⟨g6,0,none⟩)) ⟨hu,.refl _,rfl⟩)
                   ·refine ⟨fun _ _ _ _ _ h=>h,fun c u hu hb=>?_⟩
                    obtain ⟨h1,_⟩:=hb
                    exact AH.knownE [(154,1,.pointer (some ⟨g6,0,none⟩))] (by kernel_rfl) ⟨(List.cons.inj h1).1,trivial⟩ (AH.reads ⟨0,_,(3,0),[]⟩ (Az l2.G hu) (.agg ⟨[.bool (a.1),D a.2.1,D a.2.2.1,D a.2.2.2]⟩) ⟨hu,.refl _,rfl⟩)
                   ·refine ⟨fun _ _ _ _ he h=>h.keep he,fun c u hu hb=>?_⟩
                    obtain ⟨h2,_⟩:=hb
                    refine AH.knownE [(155,2,.agg ⟨[.bool (a.1),D a.2.1,D a.2.2.1,D a.2.2.2]⟩)] (by kernel_rfl) ⟨(List.cons.inj h2).1,trivial⟩ (AH.runsK ⟨u.heap.size,[],(0,0),[]⟩ ⟨u.heap.size + 1,[⟨u.heap.size,0,[.bool (a.1),D a.2.1,D a.2.2.1,D a.2.2.2],26,true⟩],(0,0),[]⟩ (.value (.slice (some ⟨u.heap.size,0,none⟩) 1 1)) (.slice (some ⟨u.heap.size,0,none⟩) 1 1) (.inl rfl) (Br u) rfl fun u2 hL hK=>?_)
                    have Bq:Below u.heap.size u u2:=hK.below (Nat.le_refl _) (fun k p=>by cases p)
                    exact ⟨hu.trans (Bq.mono hu.size),Bq,⟨_,rfl,F2 (rs:=[[.bool (a.1),D a.2.1,D a.2.2.1,D a.2.2.2]]) (by simp) (hL.sat.good _ (List.mem_singleton.2 rfl))⟩⟩
                   ·refine ⟨fun _ _ _ _ _ h=>h,fun c u hu hb=>?_⟩
                    obtain ⟨h3,_⟩:=hb
                    obtain ⟨d2,z2,b7⟩:=h3
                    refine AH.knownE [(156,3,.slice (some ⟨d2,0,none⟩) 1 1)] (by kernel_rfl) ⟨(List.cons.inj z2).1,trivial⟩ (AH.call (f:=156) [.tmp 156] (args:=[.slice (some ⟨d2,0,none⟩) 1 1]) (ats:=#[90]) rfl (by kernel_rfl) (BW _ _) ((Ke (some ⟨d2,0,none⟩) [(a.1,a.2.1,a.2.2.1,a.2.2.2)] 1 u b7 (by first | assumption | omega | (simp <;> omega))).mono fun en u2 hh=>?_))
                    obtain ⟨rfl,bb⟩:=hh
                    exact ⟨_,rfl,hu.trans (bb.mono hu.size),bb,rfl⟩
                   ·refine ⟨fun _ _ _ _ _ h=>h,fun c u hu hb=>?_⟩
                    obtain ⟨h0,h4,_⟩:=hb
                    refine AH.knownE [(153,0,.agg ⟨z14⟩),(157,4,D z25)] (by kernel_rfl) ⟨(List.cons.inj h0).1,(List.cons.inj h4).1,trivial⟩ (AH.call (f:=152) [.tmp 153,.tmp 157] (args:=[.agg ⟨z14⟩,D z25]) (ats:=#[26,44]) rfl (by kernel_rfl) (BW _ _) ((DO true 0 0 0 z25 u).mono fun en u2 hh=>?_))
                    obtain ⟨rfl,bb⟩:=hh
                    exact ⟨_,rfl,hu.trans (bb.mono hu.size),bb,rfl⟩
                   ·refine ⟨fun _ _ _ _ _ h=>h,fun c u hu hb=>?_⟩
                    obtain ⟨h5,_⟩:=hb
                    exact AH.knownE [(158,5,Bn z13)] (by kernel_rfl) ⟨(List.cons.inj h5).1,trivial⟩ (AH.reads ⟨0,[],(0,0),[]⟩ (fun e he=>by cases he) (.agg ⟨z29⟩) ⟨hu,.refl _,rfl⟩)
                   ·refine ⟨fun _ _ _ _ _ h=>h,fun c u hu hb=>?_⟩
                    obtain ⟨h5,_⟩:=hb
                    exact AH.knownE [(158,5,Bn z13)] (by kernel_rfl) ⟨(List.cons.inj h5).1,trivial⟩ (AH.reads ⟨0,[],(0,0),[]⟩ (fun e he=>by cases he) (D (z13.2.2.2.2)) ⟨hu,.refl _,rfl⟩)
                   intro c v2 g1 _ a0
                   replace g1:Below t0.heap.size t0 v2:=g1
                   obtain ⟨x0,x1,x2,x3,x4,x5,x6,x7,_⟩:=a0
                   have z7:=l2.below g1
                   refine DN [(4,.pointer (some ⟨g4,0,none⟩)),(159,c 6),(160,c 7)] fun xz=>?_
                   rw [show c 6=.agg ⟨z29⟩ from (List.cons.inj x6).1]
                   rw [show c 7=D (z13.2.2.2.2) from (List.cons.inj x7).1]
                   refine EB (i:=8) z7 (OB.getD 8 default) (2,0) (undef) fun xq y7=>?_
                   refine EB (i:=9) y7 (OB.getD 9 default) (0,0) (D (z13.2.2.2.2)) fun xp u7=>?_
                   refine Cy ⟨rfl,At.mid ?_⟩
                   refine AC oL u7 [] fun xo k3=>?_
                   exact Ab k3 (2,0) (Bn z13) (p _ _ ⟨by unfold DB; rw [z,c5,c8,g,j,l,m,n,o,r,q,v,s,b0,e0,d0,y,c0] <;> rfl,k3.B⟩)
                  ·refine AC Si l3 [] fun xn i3=>?_
                   refine AM (x.op == 16) (fun f0=>?_) (fun f0=>?_)
                   ·refine Al 45 Sh i3 [] fun r0 i2=>?_
                    refine C4 OA 11 ?_
                    let z26:=Bw [(a.1,a.2.1,a.2.2.1,a.2.2.2)]
                    let z12:=AV a.1 a.2.1 a.2.2.1 a.2.2.2 z26
                    let z30:List Value:=[.bool (z12.1),D (z12.2.1),D (z12.2.2.1),D (z12.2.2.2.1)]
                    refine CG (md:=.any) (fuel:=2) (L:=[AN 0 [] (.pointer (some ⟨g6,0,none⟩)),AN 1 [0] (.agg ⟨[.bool (a.1),D a.2.1,D a.2.2.1,D a.2.2.2]⟩),AN 2 [] (.pointer (some ⟨g6,0,none⟩)),AN 3 [2] (.agg ⟨[.bool (a.1),D a.2.1,D a.2.2.1,D a.2.2.2]⟩),⟨4,[3],[4],J3 1 4 [[.bool (a.1),D a.2.1,D a.2.2.1,D a.2.2.2]]⟩,AN 5 [4] (D z26),AN 6 [1,5] (Bn z12),AN 7 [6] (.agg ⟨z30⟩),AN 8 [6] (D (z12.2.2.2.2))]) (W:=l8) (C:=fun u=>Below r0.heap.size r0 u) (Ext:=Ck) (Below.refl _ _).drew Ck.refl (fun _ _ _=>Ck.trans) ⟨?_,?_,?_,?_,?_,?_,?_,?_,?_,trivial⟩ rfl ?_
                    ·refine ⟨fun _ _ _ _ _ h=>h,fun c u hu hb=>?_⟩
                     exact AH.knownE [] (by kernel_rfl) trivial (AH.reads ⟨0,[],(0,0),[]⟩ (fun e he=>by cases he) (.pointer (some ⟨g6,0,none⟩)) ⟨hu,.refl _,rfl⟩)
                    ·refine ⟨fun _ _ _ _ _ h=>h,fun c u hu hb=>?_⟩
                     obtain ⟨h0,_⟩:=hb
                     exact AH.knownE [(163,0,.pointer (some ⟨g6,0,none⟩))] (by kernel_rfl) ⟨(List.cons.inj h0).1,trivial⟩ (AH.reads ⟨0,_,(3,0),[]⟩ (Az i2.G hu) (.agg ⟨[.bool (a.1),D a.2.1,D a.2.2.1,D a.2.2.2]⟩) ⟨hu,.refl _,rfl⟩)
                    ·refine ⟨fun _ _ _ _ _ h=>h,fun c u hu hb=>?_⟩
                     exact AH.knownE [] (by kernel_rfl) trivial (AH.reads ⟨0,[],(0,0),[]⟩ (fun e he=>by cases he) (.pointer (some ⟨g6,0,none⟩)) ⟨hu,.refl _,rfl⟩)
                    ·refine ⟨fun _ _ _ _ _ h=>h,fun c u hu hb=>?_⟩
                     obtain ⟨h2,_⟩:=hb
                     exact AH.knownE [(165,2,.pointer (some ⟨g6,0,none⟩))] (by kernel_rfl) ⟨(List.cons.inj h2).1,trivial⟩ (AH.reads ⟨0,_,(3,0),[]⟩ (Az i2.G hu) (.agg ⟨[.bool (a.1),D a.2.1,D a.2.2.1,D a.2.2.2]⟩) ⟨hu,.refl _,rfl⟩)
                    ·refine ⟨fun _ _ _ _ he h=>h.keep he,fun c u hu hb=>?_⟩
                     obtain ⟨h3,_⟩:=hb
                     refine AH.knownE [(166,3,.agg ⟨[.bool (a.1),D a.2.1,D a.2.2.1,D a.2.2.2]⟩)] (by kernel_rfl) ⟨(List.cons.inj h3).1,trivial⟩ (AH.runsK ⟨u.heap.size,[],(0,0),[]⟩ ⟨u.heap.size + 1,[⟨u.heap.size,0,[.bool (a.1),D a.2.1,D a.2.2.1,D a.2.2.2],26,true⟩],(0,0),[]⟩ (.value (.slice (some ⟨u.heap.size,0,none⟩) 1 1)) (.slice (some ⟨u.heap.size,0,none⟩) 1 1) (.inl rfl) (Br u) rfl fun u2 hL hK=>?_)
                     have Bq:Below u.heap.size u u2:=hK.below (Nat.le_refl _) (fun k p=>by cases p)
                     exact ⟨hu.trans (Bq.mono hu.size),Bq,⟨_,rfl,F2 (rs:=[[.bool (a.1),D a.2.1,D a.2.2.1,D a.2.2.2]]) (by simp) (hL.sat.good _ (List.mem_singleton.2 rfl))⟩⟩
                    ·refine ⟨fun _ _ _ _ _ h=>h,fun c u hu hb=>?_⟩
                     obtain ⟨h4,_⟩:=hb
                     obtain ⟨b2,y2,a7⟩:=h4
                     refine AH.knownE [(167,4,.slice (some ⟨b2,0,none⟩) 1 1)] (by kernel_rfl) ⟨(List.cons.inj y2).1,trivial⟩ (AH.call (f:=157) [.tmp 167] (args:=[.slice (some ⟨b2,0,none⟩) 1 1]) (ats:=#[90]) rfl (by kernel_rfl) (BW _ _) ((Nq (some ⟨b2,0,none⟩) [(a.1,a.2.1,a.2.2.1,a.2.2.2)] 1 u a7 (by first | assumption | omega | (simp <;> omega))).mono fun en u2 hh=>?_))
                     obtain ⟨rfl,bb⟩:=hh
                     exact ⟨_,rfl,hu.trans (bb.mono hu.size),bb,rfl⟩
                    ·refine ⟨fun _ _ _ _ _ h=>h,fun c u hu hb=>?_⟩
                     obtain ⟨h1,h5,_⟩:=hb
                     refine AH.knownE [(164,1,.agg ⟨[.bool (a.1),D a.2.1,D a.2.2.1,D a.2.2.2]⟩),(168,5,D z26)] (by kernel_rfl) ⟨(List.cons.inj h1).1,(List.cons.inj h5).1,trivial⟩ (AH.call (f:=152) [.tmp 164,.tmp 168] (args:=[.agg ⟨[.bool (a.1),D a.2.1,D a.2.2.1,D a.2.2.2]⟩,D z26]) (ats:=#[26,44]) rfl (by kernel_rfl) (BW _ _) ((DO a.1 a.2.1 a.2.2.1 a.2.2.2 z26 u).mono fun en u2 hh=>?_))
                     obtain ⟨rfl,bb⟩:=hh
                     exact ⟨_,rfl,hu.trans (bb.mono hu.size),bb,rfl⟩
                    ·refine ⟨fun _ _ _ _ _ h=>h,fun c u hu hb=>?_⟩
                     obtain ⟨h6,_⟩:=hb
                     exact AH.knownE [(169,6,Bn z12)] (by kernel_rfl) ⟨(List.cons.inj h6).1,trivial⟩ (AH.reads ⟨0,[],(0,0),[]⟩ (fun e he=>by cases he) (.agg ⟨z30⟩) ⟨hu,.refl _,rfl⟩)
                    ·refine ⟨fun _ _ _ _ _ h=>h,fun c u hu hb=>?_⟩
                     obtain ⟨h6,_⟩:=hb
                     exact AH.knownE [(169,6,Bn z12)] (by kernel_rfl) ⟨(List.cons.inj h6).1,trivial⟩ (AH.reads ⟨0,[],(0,0),[]⟩ (fun e he=>by cases he) (D (z12.2.2.2.2)) ⟨hu,.refl _,rfl⟩)
                    intro c t2 f1 _ a0
                    replace f1:Below r0.heap.size r0 t2:=f1
                    obtain ⟨x0,x1,x2,x3,x4,x5,x6,x7,x8,_⟩:=a0
                    have s7:=i2.below f1
                    refine DN [(4,.pointer (some ⟨g4,0,none⟩)),(170,c 7),(171,c 8)] fun xy=>?_
                    rw [show c 7=.agg ⟨z30⟩ from (List.cons.inj x7).1]
                    rw [show c 8=D (z12.2.2.2.2) from (List.cons.inj x8).1]
                    refine EB (i:=9) s7 (OA.getD 9 default) (2,0) (undef) fun xm r7=>?_
                    refine EB (i:=10) r7 (OA.getD 10 default) (0,0) (D (z12.2.2.2.2)) fun xl q7=>?_
                    refine Cy ⟨rfl,At.mid ?_⟩
                    refine AC oK q7 [] fun xk f3=>?_
                    exact Ab f3 (2,0) (Bn z12) (p _ _ ⟨by unfold DB; rw [z,c5,c8,g,j,l,m,n,o,r,q,v,s,b0,e0,d0,y,c0,f0] <;> rfl,f3.B⟩)
                   ·refine AC Sg i3 [] fun s2 e3=>?_
                    refine AM (x.op == 18) (fun p0=>?_) (fun p0=>?_)
                    ·refine BQ Zo e3 [(3,0)] fun r2 d3=>?_
                     refine Ap d3 (Ke (some ⟨s2.heap.size,0,none⟩) [(a.1,a.2.1,a.2.2.1,a.2.2.2)] 1 r2 (F2 (t:=26) (rs:=[[.bool (a.1),D a.2.1,D a.2.2.1,D a.2.2.2]]) (by simp) (d3.ent 5 (by kernel_rfl))) (by first | assumption | omega | (simp <;> omega))) fun xj k7=>?_
                     refine AC Sf k7 [] fun xi c3=>?_
                     refine AM (Av [(a.1,a.2.1,a.2.2.1,a.2.2.2)] == 0) (fun e1=>?_) (fun e1=>?_)
                     ·refine AC Zn c3 [(3,4),(3,8)] fun q2 c6=>?_
                      refine Ap c6 (RO b.1 b.2.1 b.2.2.1 b.2.2.2 k2.1 k2.2.1 k2.2.2.1 k2.2.2.2 q2) fun xh b6=>?_
                      refine AC Zm b6 [(3,4)] fun p2 a6=>?_
                      refine Ap a6 (DO b.1 b.2.1 b.2.2.1 b.2.2.2 (GV b.1 b.2.1 b.2.2.1 b.2.2.2 k2.1 k2.2.1 k2.2.2.1 k2.2.2.2) p2) fun xg z5=>?_
                      refine BQ oJ z5 [(2,0)] fun xf z1=>?_
                      exact Ab z1 (2,0) (Bn (AV b.1 b.2.1 b.2.2.1 b.2.2.2 (GV b.1 b.2.1 b.2.2.1 b.2.2.2 k2.1 k2.2.1 k2.2.2.1 k2.2.2.2))) (p _ _ ⟨by unfold DB; rw [z,c5,c8,g,j,l,m,n,o,r,q,v,s,b0,e0,d0,y,c0,f0,p0,e1] <;> rfl,z1.B⟩)
                     ·refine AC Zl c3 [(3,4)] fun m2 y5=>?_
                      refine Ap y5 (DO b.1 b.2.1 b.2.2.1 b.2.2.2 (Av [(a.1,a.2.1,a.2.2.1,a.2.2.2)]) m2) fun xe w5=>?_
                      refine BQ oI w5 [(2,0)] fun xd y1=>?_
                      exact Ab y1 (2,0) (Bn (AV b.1 b.2.1 b.2.2.1 b.2.2.2 (Av [(a.1,a.2.1,a.2.2.1,a.2.2.2)]))) (p _ _ ⟨by unfold DB; rw [z,c5,c8,g,j,l,m,n,o,r,q,v,s,b0,e0,d0,y,c0,f0,p0,e1] <;> rfl,y1.B⟩)
                    ·refine AC Se e3 [] fun xc v1=>?_
                     refine AM (x.op == 19) (fun d1=>?_) (fun d1=>?_)
                     ·refine Al 52 Zk v1 [] fun xb t1=>?_
                      let z24:=Dh a.1 a.2.1 a.2.2.1 a.2.2.2 x.mu x.hu x.du
                      refine JX t1 [0,1,2,3,4,5,6,7,8,9] [(1,3,0),(3,3,0),(5,1,3)] [⟨6,[(196,.agg ⟨[.bool (a.1),D a.2.1,D a.2.2.1,D a.2.2.2]⟩),(198,.agg ⟨[D x.mu,D x.hu,D x.du]⟩)],D z24,true⟩,⟨7,[(194,.agg ⟨[.bool (a.1),D a.2.1,D a.2.2.1,D a.2.2.2]⟩),(199,D z24)],Bn (AV a.1 a.2.1 a.2.2.1 a.2.2.2 z24),true⟩] [(10,2,0),(11,0,0)] t1.G (fun sp d=>?_) fun kv xa u5=>?_
                      ·simp only [List.mem_cons,List.not_mem_nil,or_false] at d
                       rcases d with rfl | rfl
                       ·exact AX 151 [.tmp 196,.tmp 198] [.agg ⟨[.bool (a.1),D a.2.1,D a.2.2.1,D a.2.2.2]⟩,.agg ⟨[D x.mu,D x.hu,D x.du]⟩] (fun _=>by kernel_rfl) fun hc u hu=>AR hu (KC a.1 a.2.1 a.2.2.1 a.2.2.2 x.mu x.hu x.du u)
                       ·exact AX 152 [.tmp 194,.tmp 199] [.agg ⟨[.bool (a.1),D a.2.1,D a.2.2.1,D a.2.2.2]⟩,D z24] (fun _=>by kernel_rfl) fun hc u hu=>AR hu (DO a.1 a.2.1 a.2.2.1 a.2.2.2 z24 u)
                      refine AC oH u5 [] fun js s1=>?_
                      exact Ab s1 (2,0) (Bn (AV a.1 a.2.1 a.2.2.1 a.2.2.2 z24)) (p _ _ ⟨by unfold DB; rw [z,c5,c8,g,j,l,m,n,o,r,q,v,s,b0,e0,d0,y,c0,f0,p0,d1] <;> rfl,s1.B⟩)
                     ·refine AC oG v1 [(2,0)] fun jj r1=>?_
                      exact Ab r1 (2,0) (.tuple #[.agg ⟨[.bool false,D 0,D 0,D 0]⟩,D 1]) (p _ _ ⟨by unfold DB; rw [z,c5,c8,g,j,l,m,n,o,r,q,v,s,b0,e0,d0,y,c0,f0,p0,d1] <;> rfl,r1.B⟩)
def SY (ns:List (Df)) (ss:List (Df)) (ps:List (Df)) (x:Ex):Bool×Int×Int×Int×Int:=DB ns ss ps x (false,0,0,0) (false,0,0,0) (false,0,0,0)
def mL (r:Bool×Int×Int×Int×Int):Value:=.tuple #[.agg ⟨[.bool (r.1),D (r.2.1),D (r.2.2.1),D (r.2.2.2.1)]⟩,D (r.2.2.2.2)]
noncomputable def Qi:Code:=Tryz.f125.body.getD .skip
def sF:List Item:=(CV (Kr 10) 400 [false] ([.code Qi])).2
theorem SX (f:Option Addr) (ns:List (Df)) (k:Nat) (d:Option Addr) (ss:List (Df)) (j:Nat) (b:Option Addr) (p:List (Df)) (i:Nat) (x:Ex) (a:Option Addr) (g:Nat) (w:World) (s:rowsDf w f ns) (o:ns.length≤4294967296) (q:rowsDf w d ss) (l:ss.length≤4294967296) (r:rowsDf w b p) (m:p.length≤4294967296) (u:rowsEx w a []) (v:x.ks.length=0):Calls Tryz.prog 125 ([.agg ⟨[.slice f ns.length k,.slice d ss.length j,.slice b p.length i]⟩,.agg ⟨[D x.op,D x.num,D x.den,D x.mu,D x.hu,D x.du,.string ⟨⟨x.nm⟩⟩,D x.cnt,D x.md,.slice a 0 g]⟩]:List Value).toArray w fun e w'=>e=.returned (mL (SY ns ss p x))∧Below w.heap.size w w':=by
 refine Af (fn:=Tryz.f125) (c:=Qi) (n:=204) ?_
 have K1:=Wk.start w
 refine CH (CV (Kr 10) 400 [false] ([.code Qi])).1 [(4,2),(15,1)] sF K1 fun t z=>?_
 have y:Wk w t [⟨w.heap.size,0,[.slice f ns.length k,.slice d ss.length j,.slice b p.length i],174,true⟩,⟨w.heap.size + 1,0,[D x.op,D x.num,D x.den,D x.mu,D x.hu,D x.du,.string ⟨⟨x.nm⟩⟩,D x.cnt,D x.md,.slice a 0 g],32,true⟩,⟨w.heap.size + 2,0,[.bool false,D 0,D 0,D 0],26,true⟩,⟨w.heap.size + 3,0,[.bool false,D 0,D 0,D 0,.bool false,D 0,D 0,D 0,.bool false,D 0,D 0,D 0],188,true⟩] [] []:=z.pk [0,1,2,3] []
 refine BB [(2,.pointer (some ⟨w.heap.size,0,none⟩)),(3,.pointer (some ⟨w.heap.size + 1,0,none⟩)),(4,.pointer (some ⟨w.heap.size + 2,0,none⟩)),(6,.pointer (some ⟨w.heap.size + 3,0,none⟩))] fun E2=>?_
 refine NO (todo':=QO) (by kernel_rfl) ?_
 exact Jr ns ss p x (false,0,0,0) (false,0,0,0) (false,0,0,0) f d b a k j i 0 g w.heap.size (w.heap.size + 1) (w.heap.size + 2) (w.heap.size + 3) E2 w t s o q l r m y (fun _ _ h=>⟨h.1.trans (by unfold SY; rfl),h.2⟩)
def Og (r0:JY) (ns:List (Df)) (ss:List (Df)) (ps:List (Df)) (x:Ex):Bool×Int×Int×Int×Int:=cond (!((r0).2.2.2.2 == 0)) ((false,0,0,0,(r0).2.2.2.2)) (DB ns ss ps x (r0.1,r0.2.1,r0.2.2.1,r0.2.2.2.1) (false,0,0,0) (false,0,0,0))
def mK (r:Bool×Int×Int×Int×Int):Value:=.tuple #[.agg ⟨[.bool (r.1),D (r.2.1),D (r.2.2.1),D (r.2.2.2.1)]⟩,D (r.2.2.2.2)]
noncomputable def Qh:Code:=Tryz.f125.body.getD .skip
def Wy:List Item:=(CV (Gx (Gl 30)) 400 [true] ([.code Qh])).2
def Wx:List Item:=(CV (fun _=>false) 400 [] (AE (AE Wy))).2
def Om:List Item:=(CV (fun _=>false) 400 [] (AE Wx)).2
def sE:List Item:=(CV (fun _=>false) 400 [] (AG Om)).2
def sD:List Item:=(CV (Kr 10) 400 [false] (AL Om)).2
theorem SW (p:JY) (f:Option Addr) (ns:List (Df)) (l:Nat) (d:Option Addr) (ss:List (Df)) (j:Nat) (b:Option Addr) (r:List (Df)) (i:Nat) (x:Ex) (s:Option Addr) (a:Ex) (m:Nat) (w:World) (f0:rowsDf w f ns) (y:ns.length≤4294967296) (d0:rowsDf w d ss) (t:ss.length≤4294967296) (e0:rowsDf w b r) (v:r.length≤4294967296) (c0:rowsEx w s [a]) (q0:x.ks.length=1) (p0:∀ u,Below w.heap.size w u→∀ (A:Option Addr) (c:Nat),rowsEx u A a.ks→Calls Tryz.prog 125 ([.agg ⟨[.slice f ns.length l,.slice d ss.length j,.slice b r.length i]⟩,.agg ⟨CW a A c⟩]:List Value).toArray u fun e w'=>e=.returned (Jq p)∧Below u.heap.size u w'):Calls Tryz.prog 125 ([.agg ⟨[.slice f ns.length l,.slice d ss.length j,.slice b r.length i]⟩,.agg ⟨[D x.op,D x.num,D x.den,D x.mu,D x.hu,D x.du,.string ⟨⟨x.nm⟩⟩,D x.cnt,D x.md,.slice s 1 m]⟩]:List Value).toArray w fun e w'=>e=.returned (mK (Og p ns ss r x))∧Below w.heap.size w w':=by
 refine Af (fn:=Tryz.f125) (c:=Qh) (n:=204) ?_
 have K1:=Wk.start w
 obtain ⟨gk,o,rfl,i0,z⟩:=c0.all (by simp)
 obtain ⟨b0,a0,q,h0⟩:=z 0 a rfl
 refine CH (CV (Gx (Gl 30)) 400 [true] ([.code Qh])).1 [(15,1)] Wy K1 fun w1 K2=>?_
 refine BH (g:=gk) (off:=o) (cap:=m) (sz:=10) (k:=0) (len:=1) (some 21) (by decide) Tryz.underlying30 ?_
 let z10:List Value:=[D a.op,D a.num,D a.den,D a.mu,D a.hu,D a.du,.string ⟨⟨a.nm⟩⟩,D a.cnt,D a.md,.slice b0 a.ks.length a0]
 refine CC 32 gk (o + 0 * 10) z10 (some 22) (Ac q i0 K2.B) ?_
 refine CH (CV (fun _=>false) 400 [] (AE (AE Wy))).1 [(2,0),(8,4)] Wx K2 fun w2 K3=>?_
 refine Ap K3 (args:=[.agg ⟨[.slice f ns.length l,.slice d ss.length j,.slice b r.length i]⟩,.agg ⟨z10⟩]) (p0 w2 K3.B _ _ (h0.below K3.B)) fun w3 K4=>?_
 refine CH (CV (fun _=>false) 400 [] (AE Wx)).1 [(9,5)] Om K4 fun w4 K5=>?_
 refine AM (!((p).2.2.2.2 == 0)) (fun c5=>?_) (fun c5=>?_)
 ·refine CH (CV (fun _=>false) 400 [] (AG Om)).1 [(4,2)] sE K5 fun w6 K6=>?_
  exact AO K6 (2,0) (.tuple #[.agg ⟨[.bool false,D 0,D 0,D 0]⟩,D ((p).2.2.2.2)]) (by unfold Og; rw [c5] <;> rfl)
 ·refine CH (CV (Kr 10) 400 [false] (AL Om)).1 [(9,5),(35,3)] sD K5 fun w7 K7=>?_
  have K8:Wk w w7 [⟨w.heap.size,0,[.slice f ns.length l,.slice d ss.length j,.slice b r.length i],174,true⟩,⟨w.heap.size + 1,0,[D x.op,D x.num,D x.den,D x.mu,D x.hu,D x.du,.string ⟨⟨x.nm⟩⟩,D x.cnt,D x.md,.slice (some ⟨gk,o,none⟩) 1 m],32,true⟩,⟨w.heap.size + 2,0,[.bool false,D 0,D 0,D 0],26,true⟩,⟨w.heap.size + 3,0,[.bool ((p).1),D ((p).2.1),D ((p).2.2.1),D ((p).2.2.2.1),.bool false,D 0,D 0,D 0,.bool false,D 0,D 0,D 0],188,true⟩] [] []:=K7.pk [0,1,2,3] []
  refine BB [(2,.pointer (some ⟨w.heap.size,0,none⟩)),(3,.pointer (some ⟨w.heap.size + 1,0,none⟩)),(4,.pointer (some ⟨w.heap.size + 2,0,none⟩)),(6,.pointer (some ⟨w.heap.size + 3,0,none⟩))] fun E8=>?_
  refine NO (todo':=QO) (by kernel_rfl) ?_
  exact Jr ns ss r x (p.1,p.2.1,p.2.2.1,p.2.2.2.1) (false,0,0,0) (false,0,0,0) f d b (some ⟨gk,o,none⟩) l j i 1 m w.heap.size (w.heap.size + 1) (w.heap.size + 2) (w.heap.size + 3) E8 w w7 f0 y d0 t e0 v K8 (fun _ _ h=>⟨h.1.trans (by unfold Og; rw [c5] <;> rfl),h.2⟩)
def MR (r0:JY) (r1:JY) (ns:List (Df)) (ss:List (Df)) (ps:List (Df)) (x:Ex):Bool×Int×Int×Int×Int:=cond (!((r0).2.2.2.2 == 0)) ((false,0,0,0,(r0).2.2.2.2)) (cond (!((r1).2.2.2.2 == 0)) ((false,0,0,0,(r1).2.2.2.2)) (DB ns ss ps x (r0.1,r0.2.1,r0.2.2.1,r0.2.2.2.1) (r1.1,r1.2.1,r1.2.2.1,r1.2.2.2.1) (false,0,0,0)))
def mJ (r:Bool×Int×Int×Int×Int):Value:=.tuple #[.agg ⟨[.bool (r.1),D (r.2.1),D (r.2.2.1),D (r.2.2.2.1)]⟩,D (r.2.2.2.2)]
noncomputable def Qg:Code:=Tryz.f125.body.getD .skip
def Ww:List Item:=(CV (Gx (Gl 30)) 400 [true] ([.code Qg])).2
def Wv:List Item:=(CV (fun _=>false) 400 [] (AE (AE Ww))).2
def Ol:List Item:=(CV (fun _=>false) 400 [] (AE Wv)).2
def sC:List Item:=(CV (fun _=>false) 400 [] (AG Ol)).2
def Wu:List Item:=(CV (Gx (Gl 30)) 400 [true] (AL Ol)).2
def Wt:List Item:=(CV (fun _=>false) 400 [] (AE (AE Wu))).2
def Ok:List Item:=(CV (fun _=>false) 400 [] (AE Wt)).2
def sB:List Item:=(CV (fun _=>false) 400 [] (AG Ok)).2
def sA:List Item:=(CV (Kr 10) 400 [false] (AL Ok)).2
theorem SV (r q:JY) (d:Option Addr) (ns:List (Df)) (m:Nat) (b:Option Addr) (ss:List (Df)) (l:Nat) (a:Option Addr) (t:List (Df)) (j:Nat) (x:Ex) (z:Option Addr) (i f:Ex) (p:Nat) (w:World) (x0:rowsDf w d ns) (c0:ns.length≤4294967296) (v0:rowsDf w b ss) (a0:ss.length≤4294967296) (w0:rowsDf w a t) (b0:t.length≤4294967296) (t0:rowsEx w z [i,f]) (m1:x.ks.length=2) (f1:∀ u,Below w.heap.size w u→∀ (A:Option Addr) (c:Nat),rowsEx u A i.ks→Calls Tryz.prog 125 ([.agg ⟨[.slice d ns.length m,.slice b ss.length l,.slice a t.length j]⟩,.agg ⟨CW i A c⟩]:List Value).toArray u fun e w'=>e=.returned (Jq r)∧Below u.heap.size u w') (e1:∀ u,Below w.heap.size w u→∀ (A:Option Addr) (c:Nat),rowsEx u A f.ks→Calls Tryz.prog 125 ([.agg ⟨[.slice d ns.length m,.slice b ss.length l,.slice a t.length j]⟩,.agg ⟨CW f A c⟩]:List Value).toArray u fun e w'=>e=.returned (Jq q)∧Below u.heap.size u w'):Calls Tryz.prog 125 ([.agg ⟨[.slice d ns.length m,.slice b ss.length l,.slice a t.length j]⟩,.agg ⟨[D x.op,D x.num,D x.den,D x.mu,D x.hu,D x.du,.string ⟨⟨x.nm⟩⟩,D x.cnt,D x.md,.slice z 2 p]⟩]:List Value).toArray w fun e w'=>e=.returned (mJ (MR r q ns ss t x))∧Below w.heap.size w w':=by
 refine Af (fn:=Tryz.f125) (c:=Qg) (n:=204) ?_
 have K1:=Wk.start w
 obtain ⟨gk,o,rfl,q0,s⟩:=t0.all (by simp)
 obtain ⟨p0,i0,y,z0⟩:=s 0 i rfl
 refine CH (CV (Gx (Gl 30)) 400 [true] ([.code Qg])).1 [(15,1)] Ww K1 fun w1 K2=>?_
 refine BH (g:=gk) (off:=o) (cap:=p) (sz:=10) (k:=0) (len:=2) (some 21) (by decide) Tryz.underlying30 ?_
 let z11:List Value:=[D i.op,D i.num,D i.den,D i.mu,D i.hu,D i.du,.string ⟨⟨i.nm⟩⟩,D i.cnt,D i.md,.slice p0 i.ks.length i0]
 refine CC 32 gk (o + 0 * 10) z11 (some 22) (Ac y q0 K2.B) ?_
 refine CH (CV (fun _=>false) 400 [] (AE (AE Ww))).1 [(2,0),(8,4)] Wv K2 fun w2 K3=>?_
 let z10:List Value:=[.slice d ns.length m,.slice b ss.length l,.slice a t.length j]
 refine Ap K3 (args:=[.agg ⟨z10⟩,.agg ⟨z11⟩]) (f1 w2 K3.B _ _ (z0.below K3.B)) fun w3 K4=>?_
 refine CH (CV (fun _=>false) 400 [] (AE Wv)).1 [(9,5)] Ol K4 fun w4 K5=>?_
 refine AM (!((r).2.2.2.2 == 0)) (fun c5=>?_) (fun c5=>?_)
 ·refine CH (CV (fun _=>false) 400 [] (AG Ol)).1 [(4,2)] sC K5 fun w6 K6=>?_
  exact AO K6 (2,0) (.tuple #[.agg ⟨[.bool false,D 0,D 0,D 0]⟩,D ((r).2.2.2.2)]) (by unfold MR; rw [c5] <;> rfl)
 ·obtain ⟨h0,f0,v,y0⟩:=s 1 f rfl
  refine CH (CV (Gx (Gl 30)) 400 [true] (AL Ol)).1 [(9,5),(35,3)] Wu K5 fun w7 K7=>?_
  refine BH (g:=gk) (off:=o) (cap:=p) (sz:=10) (k:=1) (len:=2) (some 21) (by decide) Tryz.underlying30 ?_
  let z12:List Value:=[D f.op,D f.num,D f.den,D f.mu,D f.hu,D f.du,.string ⟨⟨f.nm⟩⟩,D f.cnt,D f.md,.slice h0 f.ks.length f0]
  refine CC 32 gk (o + 1 * 10) z12 (some 22) (Ac v q0 K7.B) ?_
  refine CH (CV (fun _=>false) 400 [] (AE (AE Wu))).1 [(2,0),(8,6)] Wt K7 fun w8 K8=>?_
  refine Ap K8 (args:=[.agg ⟨z10⟩,.agg ⟨z12⟩]) (e1 w8 K8.B _ _ (y0.below K8.B)) fun w9 K9=>?_
  refine CH (CV (fun _=>false) 400 [] (AE Wt)).1 [(9,7)] Ok K9 fun i1 a1=>?_
  refine AM (!((q).2.2.2.2 == 0)) (fun d0=>?_) (fun d0=>?_)
  ·refine CH (CV (fun _=>false) 400 [] (AG Ok)).1 [(4,2)] sB a1 fun h1 d1=>?_
   exact AO d1 (2,0) (.tuple #[.agg ⟨[.bool false,D 0,D 0,D 0]⟩,D ((q).2.2.2.2)]) (by unfold MR; rw [c5,d0] <;> rfl)
  ·refine CH (CV (Kr 10) 400 [false] (AL Ok)).1 [(9,7),(35,3)] sA a1 fun e0 c1=>?_
   have b1:Wk w e0 [⟨w.heap.size,0,z10,174,true⟩,⟨w.heap.size + 1,0,[D x.op,D x.num,D x.den,D x.mu,D x.hu,D x.du,.string ⟨⟨x.nm⟩⟩,D x.cnt,D x.md,.slice (some ⟨gk,o,none⟩) 2 p],32,true⟩,⟨w.heap.size + 2,0,[.bool false,D 0,D 0,D 0],26,true⟩,⟨w.heap.size + 3,0,[.bool ((r).1),D ((r).2.1),D ((r).2.2.1),D ((r).2.2.2.1),.bool ((q).1),D ((q).2.1),D ((q).2.2.1),D ((q).2.2.2.1),.bool false,D 0,D 0,D 0],188,true⟩] [] []:=c1.pk [0,1,2,3] []
   refine BB [(2,.pointer (some ⟨w.heap.size,0,none⟩)),(3,.pointer (some ⟨w.heap.size + 1,0,none⟩)),(4,.pointer (some ⟨w.heap.size + 2,0,none⟩)),(6,.pointer (some ⟨w.heap.size + 3,0,none⟩))] fun g1=>?_
   refine NO (todo':=QO) (by kernel_rfl) ?_
   exact Jr ns ss t x (r.1,r.2.1,r.2.2.1,r.2.2.2.1) (q.1,q.2.1,q.2.2.1,q.2.2.2.1) (false,0,0,0) d b a (some ⟨gk,o,none⟩) m l j 2 p w.heap.size (w.heap.size + 1) (w.heap.size + 2) (w.heap.size + 3) g1 w e0 x0 c0 v0 a0 w0 b0 b1 (fun _ _ h=>⟨h.1.trans (by unfold MR; rw [c5,d0] <;> rfl),h.2⟩)
def Kx (r0:JY) (r1:JY) (r2:JY) (ns:List (Df)) (ss:List (Df)) (ps:List (Df)) (x:Ex):Bool×Int×Int×Int×Int:=cond (!((r0).2.2.2.2 == 0)) ((false,0,0,0,(r0).2.2.2.2)) (cond (!((r1).2.2.2.2 == 0)) ((false,0,0,0,(r1).2.2.2.2)) (cond (!((r2).2.2.2.2 == 0)) ((false,0,0,0,(r2).2.2.2.2)) (DB ns ss ps x (r0.1,r0.2.1,r0.2.2.1,r0.2.2.2.1) (r1.1,r1.2.1,r1.2.2.1,r1.2.2.2.1) (r2.1,r2.2.1,r2.2.2.1,r2.2.2.2.1))))
def mI (r:Bool×Int×Int×Int×Int):Value:=.tuple #[.agg ⟨[.bool (r.1),D (r.2.1),D (r.2.2.1),D (r.2.2.2.1)]⟩,D (r.2.2.2.2)]
noncomputable def Qf:Code:=Tryz.f125.body.getD .skip
def Ws:List Item:=(CV (Gx (Gl 30)) 400 [true] ([.code Qf])).2
def Wq:List Item:=(CV (fun _=>false) 400 [] (AE (AE Ws))).2
def Oj:List Item:=(CV (fun _=>false) 400 [] (AE Wq)).2
def rz:List Item:=(CV (fun _=>false) 400 [] (AG Oj)).2
def Wp:List Item:=(CV (Gx (Gl 30)) 400 [true] (AL Oj)).2
def Wo:List Item:=(CV (fun _=>false) 400 [] (AE (AE Wp))).2
def Oi:List Item:=(CV (fun _=>false) 400 [] (AE Wo)).2
def ry:List Item:=(CV (fun _=>false) 400 [] (AG Oi)).2
def Wn:List Item:=(CV (Gx (Gl 30)) 400 [true] (AL Oi)).2
def Wm:List Item:=(CV (fun _=>false) 400 [] (AE (AE Wn))).2
def MT:List Item:=(CV (fun _=>false) 400 [] (AE Wm)).2
def oe:List Item:=(CV (fun _=>false) 400 [] (AG MT)).2
def od:List Item:=(CV (Kr 10) 400 [false] (AL MT)).2
theorem SU (v t s:JY) (d:Option Addr) (ns:List (Df)) (j:Nat) (b:Option Addr) (ss:List (Df)) (i:Nat) (a:Option Addr) (y:List (Df)) (f:Nat) (x:Ex) (d0:Option Addr) (p o m:Ex) (q:Nat) (w:World) (e1:rowsDf w d ns) (h0:ns.length≤4294967296) (c1:rowsDf w b ss) (e0:ss.length≤4294967296) (d1:rowsDf w a y) (f0:y.length≤4294967296) (b1:rowsEx w d0 [p,o,m]) (i2:x.ks.length=3) (a2:∀ u,Below w.heap.size w u→∀ (A:Option Addr) (c:Nat),rowsEx u A p.ks→Calls Tryz.prog 125 ([.agg ⟨[.slice d ns.length j,.slice b ss.length i,.slice a y.length f]⟩,.agg ⟨CW p A c⟩]:List Value).toArray u fun e w'=>e=.returned (Jq v)∧Below u.heap.size u w') (z1:∀ u,Below w.heap.size w u→∀ (A:Option Addr) (c:Nat),rowsEx u A o.ks→Calls Tryz.prog 125 ([.agg ⟨[.slice d ns.length j,.slice b ss.length i,.slice a y.length f]⟩,.agg ⟨CW o A c⟩]:List Value).toArray u fun e w'=>e=.returned (Jq t)∧Below u.heap.size u w') (y1:∀ u,Below w.heap.size w u→∀ (A:Option Addr) (c:Nat),rowsEx u A m.ks→Calls Tryz.prog 125 ([.agg ⟨[.slice d ns.length j,.slice b ss.length i,.slice a y.length f]⟩,.agg ⟨CW m A c⟩]:List Value).toArray u fun e w'=>e=.returned (Jq s)∧Below u.heap.size u w'):Calls Tryz.prog 125 ([.agg ⟨[.slice d ns.length j,.slice b ss.length i,.slice a y.length f]⟩,.agg ⟨[D x.op,D x.num,D x.den,D x.mu,D x.hu,D x.du,.string ⟨⟨x.nm⟩⟩,D x.cnt,D x.md,.slice d0 3 q]⟩]:List Value).toArray w fun e w'=>e=.returned (mI (Kx v t s ns ss y x))∧Below w.heap.size w w':=by
 refine Af (fn:=Tryz.f125) (c:=Qf) (n:=204) ?_
 have K1:=Wk.start w
 obtain ⟨gk,l,rfl,i0,r⟩:=b1.all (by simp)
 obtain ⟨a1,z0,b0,h1⟩:=r 0 p rfl
 refine CH (CV (Gx (Gl 30)) 400 [true] ([.code Qf])).1 [(15,1)] Ws K1 fun w1 K2=>?_
 refine BH (g:=gk) (off:=l) (cap:=q) (sz:=10) (k:=0) (len:=3) (some 21) (by decide) Tryz.underlying30 ?_
 let z11:List Value:=[D p.op,D p.num,D p.den,D p.mu,D p.hu,D p.du,.string ⟨⟨p.nm⟩⟩,D p.cnt,D p.md,.slice a1 p.ks.length z0]
 refine CC 32 gk (l + 0 * 10) z11 (some 22) (Ac b0 i0 K2.B) ?_
 refine CH (CV (fun _=>false) 400 [] (AE (AE Ws))).1 [(2,0),(8,4)] Wq K2 fun w2 K3=>?_
 let z10:List Value:=[.slice d ns.length j,.slice b ss.length i,.slice a y.length f]
 refine Ap K3 (args:=[.agg ⟨z10⟩,.agg ⟨z11⟩]) (a2 w2 K3.B _ _ (h1.below K3.B)) fun w3 K4=>?_
 refine CH (CV (fun _=>false) 400 [] (AE Wq)).1 [(9,5)] Oj K4 fun w4 K5=>?_
 refine AM (!((v).2.2.2.2 == 0)) (fun c5=>?_) (fun c5=>?_)
 ·refine CH (CV (fun _=>false) 400 [] (AG Oj)).1 [(4,2)] rz K5 fun w6 K6=>?_
  exact AO K6 (2,0) (.tuple #[.agg ⟨[.bool false,D 0,D 0,D 0]⟩,D ((v).2.2.2.2)]) (by unfold Kx; rw [c5] <;> rfl)
 ·obtain ⟨y0,x0,a0,g1⟩:=r 1 o rfl
  refine CH (CV (Gx (Gl 30)) 400 [true] (AL Oj)).1 [(9,5),(35,3)] Wp K5 fun w7 K7=>?_
  refine BH (g:=gk) (off:=l) (cap:=q) (sz:=10) (k:=1) (len:=3) (some 21) (by decide) Tryz.underlying30 ?_
  let z12:List Value:=[D o.op,D o.num,D o.den,D o.mu,D o.hu,D o.du,.string ⟨⟨o.nm⟩⟩,D o.cnt,D o.md,.slice y0 o.ks.length x0]
  refine CC 32 gk (l + 1 * 10) z12 (some 22) (Ac a0 i0 K7.B) ?_
  refine CH (CV (fun _=>false) 400 [] (AE (AE Wp))).1 [(2,0),(8,6)] Wo K7 fun w8 K8=>?_
  refine Ap K8 (args:=[.agg ⟨z10⟩,.agg ⟨z12⟩]) (z1 w8 K8.B _ _ (g1.below K8.B)) fun w9 K9=>?_
  refine CH (CV (fun _=>false) 400 [] (AE Wo)).1 [(9,7)] Oi K9 fun h2 n1=>?_
  refine AM (!((t).2.2.2.2 == 0)) (fun c0=>?_) (fun c0=>?_)
  ·refine CH (CV (fun _=>false) 400 [] (AG Oi)).1 [(4,2)] ry n1 fun g2 x1=>?_
   exact AO x1 (2,0) (.tuple #[.agg ⟨[.bool false,D 0,D 0,D 0]⟩,D ((t).2.2.2.2)]) (by unfold Kx; rw [c5,c0] <;> rfl)
  ·obtain ⟨w0,v0,z,f1⟩:=r 2 m rfl
   refine CH (CV (Gx (Gl 30)) 400 [true] (AL Oi)).1 [(9,7),(35,3)] Wn n1 fun f2 m1=>?_
   refine BH (g:=gk) (off:=l) (cap:=q) (sz:=10) (k:=2) (len:=3) (some 21) (by decide) Tryz.underlying30 ?_
   let z13:List Value:=[D m.op,D m.num,D m.den,D m.mu,D m.hu,D m.du,.string ⟨⟨m.nm⟩⟩,D m.cnt,D m.md,.slice w0 m.ks.length v0]
   refine CC 32 gk (l + 2 * 10) z13 (some 22) (Ac z i0 m1.B) ?_
   refine CH (CV (fun _=>false) 400 [] (AE (AE Wn))).1 [(2,0),(8,8)] Wm m1 fun p1 q0=>?_
   refine Ap q0 (args:=[.agg ⟨z10⟩,.agg ⟨z13⟩]) (y1 p1 q0.B _ _ (f1.below q0.B)) fun e2 v1=>?_
   refine CH (CV (fun _=>false) 400 [] (AE Wm)).1 [(9,9)] MT v1 fun d2 i1=>?_
   refine AM (!((s).2.2.2.2 == 0)) (fun p0=>?_) (fun p0=>?_)
   ·refine CH (CV (fun _=>false) 400 [] (AG MT)).1 [(4,2)] oe i1 fun c2 t1=>?_
    exact AO t1 (2,0) (.tuple #[.agg ⟨[.bool false,D 0,D 0,D 0]⟩,D ((s).2.2.2.2)]) (by unfold Kx; rw [c5,c0,p0] <;> rfl)
   ·refine CH (CV (Kr 10) 400 [false] (AL MT)).1 [(9,9),(35,3)] od i1 fun t0 s1=>?_
    have q1:Wk w t0 [⟨w.heap.size,0,z10,174,true⟩,⟨w.heap.size + 1,0,[D x.op,D x.num,D x.den,D x.mu,D x.hu,D x.du,.string ⟨⟨x.nm⟩⟩,D x.cnt,D x.md,.slice (some ⟨gk,l,none⟩) 3 q],32,true⟩,⟨w.heap.size + 2,0,[.bool false,D 0,D 0,D 0],26,true⟩,⟨w.heap.size + 3,0,[.bool ((v).1),D ((v).2.1),D ((v).2.2.1),D ((v).2.2.2.1),.bool ((t).1),D ((t).2.1),D ((t).2.2.1),D ((t).2.2.2.1),.bool ((s).1),D ((s).2.1),D ((s).2.2.1),D ((s).2.2.2.1)],188,true⟩] [] []:=s1.pk [0,1,2,3] []
    refine BB [(2,.pointer (some ⟨w.heap.size,0,none⟩)),(3,.pointer (some ⟨w.heap.size + 1,0,none⟩)),(4,.pointer (some ⟨w.heap.size + 2,0,none⟩)),(6,.pointer (some ⟨w.heap.size + 3,0,none⟩))] fun b2=>?_
    refine NO (todo':=QO) (by kernel_rfl) ?_
    exact Jr ns ss y x (v.1,v.2.1,v.2.2.1,v.2.2.2.1) (t.1,t.2.1,t.2.2.1,t.2.2.2.1) (s.1,s.2.1,s.2.2.1,s.2.2.2.1) d b a (some ⟨gk,l,none⟩) j i f 3 q w.heap.size (w.heap.size + 1) (w.heap.size + 2) (w.heap.size + 3) b2 w t0 e1 h0 c1 e0 d1 f0 q1 (fun _ _ h=>⟨h.1.trans (by unfold Kx; rw [c5,c0,p0] <;> rfl),h.2⟩)
end
end Go.Proofs.YtmcpjkcggfmcmaaGreatDoor

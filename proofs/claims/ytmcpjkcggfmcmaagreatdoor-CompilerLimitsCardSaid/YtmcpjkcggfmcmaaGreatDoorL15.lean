/-
  Part 15 of a proof: contracts of functions.
-/
import Derived.Test.YtmcpjkcggfmcmaaGreatDoorL14
set_option linter.all false
namespace Go.Proofs.YtmcpjkcggfmcmaaGreatDoor
noncomputable section
open Go.RowKit
set_option maxRecDepth 100000
set_option maxHeartbeats 1000000
attribute [local irreducible] BD Bb AF AG AL A4 Ai AO BO CV Di CC Bp At Fr
def Ch (ns:List Df) (ss:List Df) (ps:List Df) (x:Ex) (k0:Bool×Int×Int×Int) (k1:Bool×Int×Int×Int) (k2:Bool×Int×Int×Int):Bool×Int×Int×Int×Int:=cond (x.op == 1) ((false,x.mu,x.hu,x.du,0)) (cond (x.op == 2) ((true,0,0,0,0)) (cond (x.op == 3) (CZ ns x.nm) (cond (x.op == 20) (CZ ps x.nm) (cond (x.op == 21) (CZ ps x.nm) (cond (x.op == 4) (cond ((CZ ss x.nm).2.2.2.2 == 0) (AU ((CZ ss x.nm).1) ((CZ ss x.nm).2.1) ((CZ ss x.nm).2.2.1) ((CZ ss x.nm).2.2.2.1) (DC k0.1 k0.2.1 k0.2.2.1 k0.2.2.2 0 0 0)) (AU ((CZ ss x.nm).1) ((CZ ss x.nm).2.1) ((CZ ss x.nm).2.2.1) ((CZ ss x.nm).2.2.2.1) ((CZ ss x.nm).2.2.2.2))) (cond (x.op == 5) (AU k0.1 k0.2.1 k0.2.2.1 k0.2.2.2 (Ay k0.1 k0.2.1 k0.2.2.1 k0.2.2.2 k1.1 k1.2.1 k1.2.2.1 k1.2.2.2)) (cond (x.op == 6) (AU k0.1 k0.2.1 k0.2.2.1 k0.2.2.2 (Ay k0.1 k0.2.1 k0.2.2.1 k0.2.2.2 k1.1 k1.2.1 k1.2.2.1 k1.2.2.2)) (cond (x.op == 14) (AU k0.1 k0.2.1 k0.2.2.1 k0.2.2.2 (Ay k0.1 k0.2.1 k0.2.2.1 k0.2.2.2 k1.1 k1.2.1 k1.2.2.1 k1.2.2.2)) (cond (x.op == 15) (AU k0.1 k0.2.1 k0.2.2.1 k0.2.2.2 (Ay k0.1 k0.2.1 k0.2.2.1 k0.2.2.2 k1.1 k1.2.1 k1.2.2.1 k1.2.2.2)) (cond (x.op == 7) (Ek x.op k0.1 k0.2.1 k0.2.2.1 k0.2.2.2 k1.1 k1.2.1 k1.2.2.1 k1.2.2.2) (cond (x.op == 8) (Ek x.op k0.1 k0.2.1 k0.2.2.1 k0.2.2.2 k1.1 k1.2.1 k1.2.2.1 k1.2.2.2) (cond (x.op == 9) (AU true 0 0 0 (Ay k0.1 k0.2.1 k0.2.2.1 k0.2.2.2 k1.1 k1.2.1 k1.2.2.1 k1.2.2.2)) (cond (x.op == 10) (AU true 0 0 0 (Ay k0.1 k0.2.1 k0.2.2.1 k0.2.2.2 k1.1 k1.2.1 k1.2.2.1 k1.2.2.2)) (cond (x.op == 11) (AU true 0 0 0 (Ey k0.1 k0.2.1 k0.2.2.1 k0.2.2.2 k1.1 k1.2.1 k1.2.2.1 k1.2.2.2)) (cond (x.op == 12) (AU true 0 0 0 (An [(k0.1,k0.2.1,k0.2.2.1,k0.2.2.2),(k1.1,k1.2.1,k1.2.2.1,k1.2.2.2)])) (cond (x.op == 13) (AU true 0 0 0 (An [(k0.1,k0.2.1,k0.2.2.1,k0.2.2.2),(k1.1,k1.2.1,k1.2.2.1,k1.2.2.2)])) (cond (x.op == 17) (AU true 0 0 0 (An [(k0.1,k0.2.1,k0.2.2.1,k0.2.2.2)])) (cond (x.op == 16) (AU k0.1 k0.2.1 k0.2.2.1 k0.2.2.2 (BZ [(k0.1,k0.2.1,k0.2.2.1,k0.2.2.2)])) (cond (x.op == 18) (cond (An [(k0.1,k0.2.1,k0.2.2.1,k0.2.2.2)] == 0) (AU k1.1 k1.2.1 k1.2.2.1 k1.2.2.2 (Ey k1.1 k1.2.1 k1.2.2.1 k1.2.2.2 k2.1 k2.2.1 k2.2.2.1 k2.2.2.2)) (AU k1.1 k1.2.1 k1.2.2.1 k1.2.2.2 (An [(k0.1,k0.2.1,k0.2.2.1,k0.2.2.2)]))) (cond (x.op == 19) (AU k0.1 k0.2.1 k0.2.2.1 k0.2.2.2 (DC k0.1 k0.2.1 k0.2.2.1 k0.2.2.2 x.mu x.hu x.du)) ((false,0,0,0,1))))))))))))))))))))))
abbrev HI:=Bool×Int×Int×Int×Int
noncomputable def kG:Code:=Tryz.f125.body.getD .skip
def ny:List Item:=AB 60 [.code kG]
def nw:List Item:=AB 60 (A4 ny)
def NH:List Item:=Ac 10 (AL nw)
def TC:List Item:=AB 60 (NH)
def kj:List Item:=AB 60 (AG TC)
def TB:List Item:=AB 60 (AL TC)
def ki:List Item:=AB 60 (AG TB)
def TA:List Item:=AB 60 (AL TB)
def bz:List Item:=AB 60 (AG TA)
def kh:List Item:=AB 60 (AF bz)
def S9:List Item:=AB 60 (AL TA)
def bx:List Item:=AB 60 (AG S9)
def bw:List Item:=AB 60 (AG bx)
def gz:List Item:=AB 60 (AF bw)
def Pl:List Item:=AB 60 (AL S9)
def WP:List Item:=AB 60 (AG Pl)
def gy:List Item:=AB 60 (AF WP)
def Pk:List Item:=AB 60 (AL Pl)
def WO:List Item:=AB 60 (AG Pk)
def Pj:List Item:=AB 60 (AF WO)
def WN:List Item:=AB 60 (AG Pj)
def WM:List Item:=AB 60 (AF WN)
def gx:List Item:=AB 60 (AF WM)
def WL:List Item:=AB 60 (AL Pj)
def gv:List Item:=AB 60 (AF WL)
def Pi:List Item:=AB 60 (AL Pk)
def WK:List Item:=AB 60 (AG Pi)
def WJ:List Item:=Ac 30 (AG WK)
def gu:List Item:=AB 60 (AO WJ)
def Pg:List Item:=AB 60 (AL Pi)
def WI:List Item:=AB 60 (AG Pg)
def WH:List Item:=Ac 30 (AG WI)
def gt:List Item:=AB 60 (AO WH)
def Pf:List Item:=AB 60 (AL Pg)
def WG:List Item:=AB 60 (AG Pf)
def WF:List Item:=Ac 30 (AG WG)
def gq:List Item:=AB 60 (AO WF)
def Pe:List Item:=AB 60 (AL Pf)
def WE:List Item:=Ac 30 (AG Pe)
def gp:List Item:=AB 60 (AO WE)
def Pc:List Item:=AB 60 (AL Pe)
def WD:List Item:=AB 60 (AG Pc)
def WC:List Item:=AB 60 (AG WD)
def gm:List Item:=AB 60 (AF WC)
def Pb:List Item:=AB 60 (AL Pc)
def WB:List Item:=AB 60 (AG Pb)
def gl:List Item:=AB 60 (AF WB)
def Pa:List Item:=AB 60 (AL Pb)
def WA:List Item:=AB 60 (AG Pa)
def V9:List Item:=Ac 36 (AG WA)
def gj:List Item:=AB 60 (AO V9)
def PZ:List Item:=AB 60 (AL Pa)
def V8:List Item:=Ac 36 (AG PZ)
def gi:List Item:=AB 60 (AO V8)
def PY:List Item:=AB 60 (AL PZ)
def V7:List Item:=Ac 38 (AG PY)
def gh:List Item:=AB 60 (AO V7)
def PX:List Item:=AB 60 (AL PY)
def V6:List Item:=AB 60 (AG PX)
def PW:List Item:=Ac 41 (AG V6)
def LU:Array Oper:=(Cs PW).getD #[]
def eZ:Wr:=[(141,0),(142,1),(143,2),(144,3),(145,4),(146,5),(147,6),(148,7),(149,8),(150,9)]
def gg:List Item:=AB 60 (AO PW)
def PV:List Item:=AB 60 (AL PX)
def PU:List Item:=Ac 41 (AG PV)
def JF:Array Oper:=(Cs PU).getD #[]
def Vu:Wr:=[(141,0),(142,1),(143,2),(144,3),(145,4),(146,5),(147,6),(148,7),(149,8),(150,9)]
def gf:List Item:=AB 60 (AO PU)
def PT:List Item:=AB 60 (AL PV)
def PS:List Item:=Ac 43 (AG PT)
def LT:Array Oper:=(Cs PS).getD #[]
def eY:Wr:=[(153,0),(154,1),(155,2),(156,3),(157,4),(158,5),(159,6),(160,7)]
def ge:List Item:=AB 60 (AO PS)
def PR:List Item:=AB 60 (AL PT)
def PQ:List Item:=Ac 45 (AG PR)
def LS:Array Oper:=(Cs PQ).getD #[]
def eX:Wr:=[(163,0),(164,1),(165,2),(166,3),(167,4),(168,5),(169,6),(170,7),(171,8)]
def gc:List Item:=AB 60 (AO PQ)
def PP:List Item:=AB 60 (AL PR)
def V5:List Item:=AB 60 (AG PP)
def PO:List Item:=AB 60 (AF V5)
def V4:List Item:=AB 60 (AG PO)
def V3:List Item:=AB 60 (AF V4)
def gb:List Item:=AB 60 (AF V3)
def V2:List Item:=AB 60 (AL PO)
def ga:List Item:=AB 60 (AF V2)
def PN:List Item:=AB 60 (AL PP)
def V1:List Item:=Ac 52 (AG PN)
def gZ:List Item:=AB 60 (AO V1)
def gY:List Item:=AB 60 (AL PN)
def Ha (r:HI):Value:=.tuple #[.agg ⟨[.bool (r.1),.int .i64 (r.2.1),.int .i64 (r.2.2.1),.int .i64 (r.2.2.2.1)]⟩,.int .i64 (r.2.2.2.2)]
theorem Hb {R:Ending→World→Prop} (ns:List Df) (ss:List Df) (ps:List Df) (x:Ex) (k0:Bool×Int×Int×Int) (k1:Bool×Int×Int×Int) (k2:Bool×Int×Int×Int) (p0aA p0bA p0cA pA:Option Addr) (p0ac p0bc p0cc pk pc g2 g3 g4 g6:Nat) (E0:Nat→Value) (w we:World) (h_ns:rowsDf w p0aA ns) (hl_ns:ns.length≤4294967296) (h_ss:rowsDf w p0bA ss) (hl_ss:ss.length≤4294967296) (h_ps:rowsDf w p0cA ps) (hl_ps:ps.length≤4294967296) (K:Wk w we [⟨g2,0,[.slice p0aA ns.length p0ac,.slice p0bA ss.length p0bc,.slice p0cA ps.length p0cc],174,true⟩,⟨g3,0,[.int .i64 x.op,.int .i64 x.num,.int .i64 x.den,.int .i64 x.mu,.int .i64 x.hu,.int .i64 x.du,.string ⟨⟨x.nm⟩⟩,.int .i64 x.cnt,.int .i64 x.md,.slice pA pk pc],32,true⟩,⟨g4,0,[.bool false,.int .i64 0,.int .i64 0,.int .i64 0],26,true⟩,⟨g6,0,[.bool (k0.1),.int .i64 k0.2.1,.int .i64 k0.2.2.1,.int .i64 k0.2.2.2,.bool (k1.1),.int .i64 k1.2.1,.int .i64 k1.2.2.1,.int .i64 k1.2.2.2,.bool (k2.1),.int .i64 k2.2.1,.int .i64 k2.2.2.1,.int .i64 k2.2.2.2],188,true⟩] [] []) (hk:∀ e w',(e=.returned (Ha (Ch ns ss ps x k0 k1 k2))∧Below w.heap.size w w')→R e w'):At Tryz.prog 125 R NH (Fr 204 (CX E0 [(2,.pointer (some ⟨g2,0,none⟩)),(3,.pointer (some ⟨g3,0,none⟩)),(4,.pointer (some ⟨g4,0,none⟩)),(6,.pointer (some ⟨g6,0,none⟩))])) we:=by
 refine Bv TC [⟨g2,0,[.slice p0aA ns.length p0ac,.slice p0bA ss.length p0bc,.slice p0cA ps.length p0cc],174,true⟩,⟨g3,0,[.int .i64 x.op,.int .i64 x.num,.int .i64 x.den,.int .i64 x.mu,.int .i64 x.hu,.int .i64 x.du,.string ⟨⟨x.nm⟩⟩,.int .i64 x.cnt,.int .i64 x.md,.slice pA pk pc],32,true⟩,⟨g4,0,[.bool false,.int .i64 0,.int .i64 0,.int .i64 0],26,true⟩,⟨g6,0,[.bool (k0.1),.int .i64 k0.2.1,.int .i64 k0.2.2.1,.int .i64 k0.2.2.2,.bool (k1.1),.int .i64 k1.2.1,.int .i64 k1.2.2.1,.int .i64 k1.2.2.2,.bool (k2.1),.int .i64 k2.2.1,.int .i64 k2.2.2.1,.int .i64 k2.2.2.2],188,true⟩,⟨we.heap.size,0,[.bool true,.int .i64 0,.int .i64 0,.int .i64 0],26,true⟩] K [(4,0),(1,0)] fun w1 K1=>?_
 refine AK (x.op == 1) (fun c2=>?_) (fun c2=>?_)
 ·refine BF kj K1 [(1,3),(2,0)] fun w3 K2=>?_
  exact Aa K2 (2,0) (.tuple #[.agg ⟨[.bool false,.int .i64 x.mu,.int .i64 x.hu,.int .i64 x.du]⟩,.int .i64 0]) (hk _ _ ⟨by unfold Ch; rw [c2] <;> rfl,K2.B⟩)
 ·refine AC TB K1 [] fun w4 K3=>?_
  refine AK (x.op == 2) (fun c5=>?_) (fun c5=>?_)
  ·refine BF ki K3 [(4,0),(2,0)] fun w6 K4=>?_
   exact Aa K4 (2,0) (.tuple #[.agg ⟨[.bool true,.int .i64 0,.int .i64 0,.int .i64 0]⟩,.int .i64 0]) (hk _ _ ⟨by unfold Ch; rw [c2,c5] <;> rfl,K4.B⟩)
  ·refine AC TA K3 [] fun w7 K5=>?_
   refine AK (x.op == 3) (fun c8=>?_) (fun c8=>?_)
   ·refine AC bz K5 [(0,0),(1,6)] fun w9 K6=>?_
    refine Ak K6 (JS p0aA ns p0ac x.nm w9 (h_ns.below K6.B) (by first | assumption | omega | (simp <;> omega))) fun w10 K7=>?_
    refine BF kh K7 [(2,0)] fun w11 K8=>?_
    exact Aa K8 (2,0) (Ms (CZ ns x.nm)) (hk _ _ ⟨by unfold Ch; rw [c2,c5,c8] <;> rfl,K8.B⟩)
   ·refine AC S9 K5 [] fun w12 K9=>?_
    refine AK (x.op == 20) (fun c13=>?_) (fun c13=>?_)
    ·refine AC bx K9 [] fun w14 K10=>?_
     refine AK (x.op == 20) (fun _=>?_) (fun h=>nomatch h.symm.trans c13)
     refine AC bw K10 [(0,2),(1,6)] fun w16 K11=>?_
     refine Ak K11 (JS p0cA ps p0cc x.nm w16 (h_ps.below K11.B) (by first | assumption | omega | (simp <;> omega))) fun w17 K12=>?_
     refine BF gz K12 [(2,0)] fun w18 K13=>?_
     exact Aa K13 (2,0) (Ms (CZ ps x.nm)) (hk _ _ ⟨by unfold Ch; rw [c2,c5,c8,c13] <;> rfl,K13.B⟩)
    ·refine AC Pl K9 [] fun w19 K14=>?_
     refine AK (x.op == 21) (fun c20=>?_) (fun c20=>?_)
     ·refine AC WP K14 [(0,2),(1,6)] fun w21 K15=>?_
      refine Ak K15 (JS p0cA ps p0cc x.nm w21 (h_ps.below K15.B) (by first | assumption | omega | (simp <;> omega))) fun w22 K16=>?_
      refine BF gy K16 [(2,0)] fun w23 K17=>?_
      exact Aa K17 (2,0) (Ms (CZ ps x.nm)) (hk _ _ ⟨by unfold Ch; rw [c2,c5,c8,c13,c20] <;> rfl,K17.B⟩)
     ·refine AC Pk K14 [] fun w24 K18=>?_
      refine AK (x.op == 4) (fun c25=>?_) (fun c25=>?_)
      ·refine AC WO K18 [(0,1),(1,6)] fun w26 K19=>?_
       refine Ak K19 (JS p0bA ss p0bc x.nm w26 (h_ss.below K19.B) (by first | assumption | omega | (simp <;> omega))) fun w27 K20=>?_
       refine BF Pj K20 [(5,0)] fun w28 K21=>?_
       refine AK ((CZ ss x.nm).2.2.2.2 == 0) (fun c29=>?_) (fun c29=>?_)
       ·refine AC WN K21 [(3,0)] fun w30 K22=>?_
        refine Ak K22 (H1 k0.1 k0.2.1 k0.2.2.1 k0.2.2.2 0 0 0 w30) fun w31 K23=>?_
        refine AC WM K23 [(5,0)] fun w32 K24=>?_
        refine Ak K24 (Cu ((CZ ss x.nm).1) ((CZ ss x.nm).2.1) ((CZ ss x.nm).2.2.1) ((CZ ss x.nm).2.2.2.1) (DC k0.1 k0.2.1 k0.2.2.1 k0.2.2.2 0 0 0) w32) fun w33 K25=>?_
        refine BF gx K25 [(2,0)] fun w34 K26=>?_
        exact Aa K26 (2,0) (BT (AU ((CZ ss x.nm).1) ((CZ ss x.nm).2.1) ((CZ ss x.nm).2.2.1) ((CZ ss x.nm).2.2.2.1) (DC k0.1 k0.2.1 k0.2.2.1 k0.2.2.2 0 0 0))) (hk _ _ ⟨by unfold Ch; rw [c2,c5,c8,c13,c20,c25,c29] <;> rfl,K26.B⟩)
       ·refine AC WL K21 [(5,0)] fun w35 K27=>?_
        refine Ak K27 (Cu ((CZ ss x.nm).1) ((CZ ss x.nm).2.1) ((CZ ss x.nm).2.2.1) ((CZ ss x.nm).2.2.2.1) ((CZ ss x.nm).2.2.2.2) w35) fun w36 K28=>?_
        refine BF gv K28 [(2,0)] fun w37 K29=>?_
        exact Aa K29 (2,0) (BT (AU ((CZ ss x.nm).1) ((CZ ss x.nm).2.1) ((CZ ss x.nm).2.2.1) ((CZ ss x.nm).2.2.2.1) ((CZ ss x.nm).2.2.2.2))) (hk _ _ ⟨by unfold Ch; rw [c2,c5,c8,c13,c20,c25,c29] <;> rfl,K29.B⟩)
      ·refine AC Pi K18 [] fun w38 K30=>?_
       refine AK (x.op == 5) (fun c39=>?_) (fun c39=>?_)
       ·refine AC WK K30 [] fun w40 K31=>?_
        refine AK (x.op == 5) (fun _=>?_) (fun h=>nomatch h.symm.trans c39)
        refine Ag 30 WJ K31 [] fun w42 K32=>?_
        refine HH K32 [0,1,2,3,4,5,6,7,8,9] [(1,3,0),(3,3,0),(5,3,4)] [⟨6,[(96,.agg ⟨[.bool (k0.1),.int .i64 k0.2.1,.int .i64 k0.2.2.1,.int .i64 k0.2.2.2]⟩),(98,.agg ⟨[.bool (k1.1),.int .i64 k1.2.1,.int .i64 k1.2.2.1,.int .i64 k1.2.2.2]⟩)],.int .i64 (Ay k0.1 k0.2.1 k0.2.2.1 k0.2.2.2 k1.1 k1.2.1 k1.2.2.1 k1.2.2.2),true⟩,⟨7,[(94,.agg ⟨[.bool (k0.1),.int .i64 k0.2.1,.int .i64 k0.2.2.1,.int .i64 k0.2.2.2]⟩),(99,.int .i64 (Ay k0.1 k0.2.1 k0.2.2.1 k0.2.2.2 k1.1 k1.2.1 k1.2.2.1 k1.2.2.2))],BT (AU k0.1 k0.2.1 k0.2.2.1 k0.2.2.2 (Ay k0.1 k0.2.1 k0.2.2.1 k0.2.2.2 k1.1 k1.2.1 k1.2.2.1 k1.2.2.2)),true⟩] [(10,2,0),(11,0,0)] K32.G (fun sp hsp=>?_) fun z43 w43 K33=>?_
        ·simp only [List.mem_cons,List.not_mem_nil,or_false] at hsp
         rcases hsp with rfl | rfl
         ·exact AR 153 [.tmp 96,.tmp 98] [.agg ⟨[.bool (k0.1),.int .i64 k0.2.1,.int .i64 k0.2.2.1,.int .i64 k0.2.2.2]⟩,.agg ⟨[.bool (k1.1),.int .i64 k1.2.1,.int .i64 k1.2.2.1,.int .i64 k1.2.2.2]⟩] (fun _=>by kernel_rfl) fun hc u hu=>AP hu (ES k0.1 k0.2.1 k0.2.2.1 k0.2.2.2 k1.1 k1.2.1 k1.2.2.1 k1.2.2.2 u)
         ·exact AR 152 [.tmp 94,.tmp 99] [.agg ⟨[.bool (k0.1),.int .i64 k0.2.1,.int .i64 k0.2.2.1,.int .i64 k0.2.2.2]⟩,.int .i64 (Ay k0.1 k0.2.1 k0.2.2.1 k0.2.2.2 k1.1 k1.2.1 k1.2.2.1 k1.2.2.2)] (fun _=>by kernel_rfl) fun hc u hu=>AP hu (Cu k0.1 k0.2.1 k0.2.2.1 k0.2.2.2 (Ay k0.1 k0.2.1 k0.2.2.1 k0.2.2.2 k1.1 k1.2.1 k1.2.2.1 k1.2.2.2) u)
        refine AC gu K33 [] fun w44 K34=>?_
        exact Aa K34 (2,0) (BT (AU k0.1 k0.2.1 k0.2.2.1 k0.2.2.2 (Ay k0.1 k0.2.1 k0.2.2.1 k0.2.2.2 k1.1 k1.2.1 k1.2.2.1 k1.2.2.2))) (hk _ _ ⟨by unfold Ch; rw [c2,c5,c8,c13,c20,c25,c39] <;> rfl,K34.B⟩)
       ·refine AC Pg K30 [] fun w45 K35=>?_
        refine AK (x.op == 6) (fun c46=>?_) (fun c46=>?_)
        ·refine AC WI K35 [] fun w47 K36=>?_
         refine AK (x.op == 6) (fun _=>?_) (fun h=>nomatch h.symm.trans c46)
         refine Ag 30 WH K36 [] fun w49 K37=>?_
         refine HH K37 [0,1,2,3,4,5,6,7,8,9] [(1,3,0),(3,3,0),(5,3,4)] [⟨6,[(96,.agg ⟨[.bool (k0.1),.int .i64 k0.2.1,.int .i64 k0.2.2.1,.int .i64 k0.2.2.2]⟩),(98,.agg ⟨[.bool (k1.1),.int .i64 k1.2.1,.int .i64 k1.2.2.1,.int .i64 k1.2.2.2]⟩)],.int .i64 (Ay k0.1 k0.2.1 k0.2.2.1 k0.2.2.2 k1.1 k1.2.1 k1.2.2.1 k1.2.2.2),true⟩,⟨7,[(94,.agg ⟨[.bool (k0.1),.int .i64 k0.2.1,.int .i64 k0.2.2.1,.int .i64 k0.2.2.2]⟩),(99,.int .i64 (Ay k0.1 k0.2.1 k0.2.2.1 k0.2.2.2 k1.1 k1.2.1 k1.2.2.1 k1.2.2.2))],BT (AU k0.1 k0.2.1 k0.2.2.1 k0.2.2.2 (Ay k0.1 k0.2.1 k0.2.2.1 k0.2.2.2 k1.1 k1.2.1 k1.2.2.1 k1.2.2.2)),true⟩] [(10,2,0),(11,0,0)] K37.G (fun sp hsp=>?_) fun z50 w50 K38=>?_
         ·simp only [List.mem_cons,List.not_mem_nil,or_false] at hsp
          rcases hsp with rfl | rfl
          ·exact AR 153 [.tmp 96,.tmp 98] [.agg ⟨[.bool (k0.1),.int .i64 k0.2.1,.int .i64 k0.2.2.1,.int .i64 k0.2.2.2]⟩,.agg ⟨[.bool (k1.1),.int .i64 k1.2.1,.int .i64 k1.2.2.1,.int .i64 k1.2.2.2]⟩] (fun _=>by kernel_rfl) fun hc u hu=>AP hu (ES k0.1 k0.2.1 k0.2.2.1 k0.2.2.2 k1.1 k1.2.1 k1.2.2.1 k1.2.2.2 u)
          ·exact AR 152 [.tmp 94,.tmp 99] [.agg ⟨[.bool (k0.1),.int .i64 k0.2.1,.int .i64 k0.2.2.1,.int .i64 k0.2.2.2]⟩,.int .i64 (Ay k0.1 k0.2.1 k0.2.2.1 k0.2.2.2 k1.1 k1.2.1 k1.2.2.1 k1.2.2.2)] (fun _=>by kernel_rfl) fun hc u hu=>AP hu (Cu k0.1 k0.2.1 k0.2.2.1 k0.2.2.2 (Ay k0.1 k0.2.1 k0.2.2.1 k0.2.2.2 k1.1 k1.2.1 k1.2.2.1 k1.2.2.2) u)
         refine AC gt K38 [] fun w51 K39=>?_
         exact Aa K39 (2,0) (BT (AU k0.1 k0.2.1 k0.2.2.1 k0.2.2.2 (Ay k0.1 k0.2.1 k0.2.2.1 k0.2.2.2 k1.1 k1.2.1 k1.2.2.1 k1.2.2.2))) (hk _ _ ⟨by unfold Ch; rw [c2,c5,c8,c13,c20,c25,c39,c46] <;> rfl,K39.B⟩)
        ·refine AC Pf K35 [] fun w52 K40=>?_
         refine AK (x.op == 14) (fun c53=>?_) (fun c53=>?_)
         ·refine AC WG K40 [] fun w54 K41=>?_
          refine AK (x.op == 14) (fun _=>?_) (fun h=>nomatch h.symm.trans c53)
          refine Ag 30 WF K41 [] fun w56 K42=>?_
          refine HH K42 [0,1,2,3,4,5,6,7,8,9] [(1,3,0),(3,3,0),(5,3,4)] [⟨6,[(96,.agg ⟨[.bool (k0.1),.int .i64 k0.2.1,.int .i64 k0.2.2.1,.int .i64 k0.2.2.2]⟩),(98,.agg ⟨[.bool (k1.1),.int .i64 k1.2.1,.int .i64 k1.2.2.1,.int .i64 k1.2.2.2]⟩)],.int .i64 (Ay k0.1 k0.2.1 k0.2.2.1 k0.2.2.2 k1.1 k1.2.1 k1.2.2.1 k1.2.2.2),true⟩,⟨7,[(94,.agg ⟨[.bool (k0.1),.int .i64 k0.2.1,.int .i64 k0.2.2.1,.int .i64 k0.2.2.2]⟩),(99,.int .i64 (Ay k0.1 k0.2.1 k0.2.2.1 k0.2.2.2 k1.1 k1.2.1 k1.2.2.1 k1.2.2.2))],BT (AU k0.1 k0.2.1 k0.2.2.1 k0.2.2.2 (Ay k0.1 k0.2.1 k0.2.2.1 k0.2.2.2 k1.1 k1.2.1 k1.2.2.1 k1.2.2.2)),true⟩] [(10,2,0),(11,0,0)] K42.G (fun sp hsp=>?_) fun z57 w57 K43=>?_
          ·simp only [List.mem_cons,List.not_mem_nil,or_false] at hsp
           rcases hsp with rfl | rfl
           ·exact AR 153 [.tmp 96,.tmp 98] [.agg ⟨[.bool (k0.1),.int .i64 k0.2.1,.int .i64 k0.2.2.1,.int .i64 k0.2.2.2]⟩,.agg ⟨[.bool (k1.1),.int .i64 k1.2.1,.int .i64 k1.2.2.1,.int .i64 k1.2.2.2]⟩] (fun _=>by kernel_rfl) fun hc u hu=>AP hu (ES k0.1 k0.2.1 k0.2.2.1 k0.2.2.2 k1.1 k1.2.1 k1.2.2.1 k1.2.2.2 u)
           ·exact AR 152 [.tmp 94,.tmp 99] [.agg ⟨[.bool (k0.1),.int .i64 k0.2.1,.int .i64 k0.2.2.1,.int .i64 k0.2.2.2]⟩,.int .i64 (Ay k0.1 k0.2.1 k0.2.2.1 k0.2.2.2 k1.1 k1.2.1 k1.2.2.1 k1.2.2.2)] (fun _=>by kernel_rfl) fun hc u hu=>AP hu (Cu k0.1 k0.2.1 k0.2.2.1 k0.2.2.2 (Ay k0.1 k0.2.1 k0.2.2.1 k0.2.2.2 k1.1 k1.2.1 k1.2.2.1 k1.2.2.2) u)
          refine AC gq K43 [] fun w58 K44=>?_
          exact Aa K44 (2,0) (BT (AU k0.1 k0.2.1 k0.2.2.1 k0.2.2.2 (Ay k0.1 k0.2.1 k0.2.2.1 k0.2.2.2 k1.1 k1.2.1 k1.2.2.1 k1.2.2.2))) (hk _ _ ⟨by unfold Ch; rw [c2,c5,c8,c13,c20,c25,c39,c46,c53] <;> rfl,K44.B⟩)
         ·refine AC Pe K40 [] fun w59 K45=>?_
          refine AK (x.op == 15) (fun c60=>?_) (fun c60=>?_)
          ·refine Ag 30 WE K45 [] fun w61 K46=>?_
           refine HH K46 [0,1,2,3,4,5,6,7,8,9] [(1,3,0),(3,3,0),(5,3,4)] [⟨6,[(96,.agg ⟨[.bool (k0.1),.int .i64 k0.2.1,.int .i64 k0.2.2.1,.int .i64 k0.2.2.2]⟩),(98,.agg ⟨[.bool (k1.1),.int .i64 k1.2.1,.int .i64 k1.2.2.1,.int .i64 k1.2.2.2]⟩)],.int .i64 (Ay k0.1 k0.2.1 k0.2.2.1 k0.2.2.2 k1.1 k1.2.1 k1.2.2.1 k1.2.2.2),true⟩,⟨7,[(94,.agg ⟨[.bool (k0.1),.int .i64 k0.2.1,.int .i64 k0.2.2.1,.int .i64 k0.2.2.2]⟩),(99,.int .i64 (Ay k0.1 k0.2.1 k0.2.2.1 k0.2.2.2 k1.1 k1.2.1 k1.2.2.1 k1.2.2.2))],BT (AU k0.1 k0.2.1 k0.2.2.1 k0.2.2.2 (Ay k0.1 k0.2.1 k0.2.2.1 k0.2.2.2 k1.1 k1.2.1 k1.2.2.1 k1.2.2.2)),true⟩] [(10,2,0),(11,0,0)] K46.G (fun sp hsp=>?_) fun z62 w62 K47=>?_
           ·simp only [List.mem_cons,List.not_mem_nil,or_false] at hsp
            rcases hsp with rfl | rfl
            ·exact AR 153 [.tmp 96,.tmp 98] [.agg ⟨[.bool (k0.1),.int .i64 k0.2.1,.int .i64 k0.2.2.1,.int .i64 k0.2.2.2]⟩,.agg ⟨[.bool (k1.1),.int .i64 k1.2.1,.int .i64 k1.2.2.1,.int .i64 k1.2.2.2]⟩] (fun _=>by kernel_rfl) fun hc u hu=>AP hu (ES k0.1 k0.2.1 k0.2.2.1 k0.2.2.2 k1.1 k1.2.1 k1.2.2.1 k1.2.2.2 u)
            ·exact AR 152 [.tmp 94,.tmp 99] [.agg ⟨[.bool (k0.1),.int .i64 k0.2.1,.int .i64 k0.2.2.1,.int .i64 k0.2.2.2]⟩,.int .i64 (Ay k0.1 k0.2.1 k0.2.2.1 k0.2.2.2 k1.1 k1.2.1 k1.2.2.1 k1.2.2.2)] (fun _=>by kernel_rfl) fun hc u hu=>AP hu (Cu k0.1 k0.2.1 k0.2.2.1 k0.2.2.2 (Ay k0.1 k0.2.1 k0.2.2.1 k0.2.2.2 k1.1 k1.2.1 k1.2.2.1 k1.2.2.2) u)
           refine AC gp K47 [] fun w63 K48=>?_
           exact Aa K48 (2,0) (BT (AU k0.1 k0.2.1 k0.2.2.1 k0.2.2.2 (Ay k0.1 k0.2.1 k0.2.2.1 k0.2.2.2 k1.1 k1.2.1 k1.2.2.1 k1.2.2.2))) (hk _ _ ⟨by unfold Ch; rw [c2,c5,c8,c13,c20,c25,c39,c46,c53,c60] <;> rfl,K48.B⟩)
          ·refine AC Pc K45 [] fun w64 K49=>?_
           refine AK (x.op == 7) (fun c65=>?_) (fun c65=>?_)
           ·refine AC WD K49 [] fun w66 K50=>?_
            refine AK (x.op == 7) (fun _=>?_) (fun h=>nomatch h.symm.trans c65)
            refine AC WC K50 [(1,0),(3,0),(3,4)] fun w68 K51=>?_
            refine Ak K51 (LB x.op k0.1 k0.2.1 k0.2.2.1 k0.2.2.2 k1.1 k1.2.1 k1.2.2.1 k1.2.2.2 w68) fun w69 K52=>?_
            refine BF gm K52 [(2,0)] fun w70 K53=>?_
            exact Aa K53 (2,0) (J0 (Ek x.op k0.1 k0.2.1 k0.2.2.1 k0.2.2.2 k1.1 k1.2.1 k1.2.2.1 k1.2.2.2)) (hk _ _ ⟨by unfold Ch; rw [c2,c5,c8,c13,c20,c25,c39,c46,c53,c60,c65] <;> rfl,K53.B⟩)
           ·refine AC Pb K49 [] fun w71 K54=>?_
            refine AK (x.op == 8) (fun c72=>?_) (fun c72=>?_)
            ·refine AC WB K54 [(1,0),(3,0),(3,4)] fun w73 K55=>?_
             refine Ak K55 (LB x.op k0.1 k0.2.1 k0.2.2.1 k0.2.2.2 k1.1 k1.2.1 k1.2.2.1 k1.2.2.2 w73) fun w74 K56=>?_
             refine BF gl K56 [(2,0)] fun w75 K57=>?_
             exact Aa K57 (2,0) (J0 (Ek x.op k0.1 k0.2.1 k0.2.2.1 k0.2.2.2 k1.1 k1.2.1 k1.2.2.1 k1.2.2.2)) (hk _ _ ⟨by unfold Ch; rw [c2,c5,c8,c13,c20,c25,c39,c46,c53,c60,c65,c72] <;> rfl,K57.B⟩)
            ·refine AC Pa K54 [] fun w76 K58=>?_
             refine AK (x.op == 9) (fun c77=>?_) (fun c77=>?_)
             ·refine AC WA K58 [] fun w78 K59=>?_
              refine AK (x.op == 9) (fun _=>?_) (fun h=>nomatch h.symm.trans c77)
              refine Ag 36 V9 K59 [] fun w80 K60=>?_
              refine HH K60 [0,1,2,3,4,5,6,7,8] [(0,4,0),(2,3,0),(4,3,4)] [⟨5,[(120,.agg ⟨[.bool (k0.1),.int .i64 k0.2.1,.int .i64 k0.2.2.1,.int .i64 k0.2.2.2]⟩),(122,.agg ⟨[.bool (k1.1),.int .i64 k1.2.1,.int .i64 k1.2.2.1,.int .i64 k1.2.2.2]⟩)],.int .i64 (Ay k0.1 k0.2.1 k0.2.2.1 k0.2.2.2 k1.1 k1.2.1 k1.2.2.1 k1.2.2.2),true⟩,⟨6,[(118,.agg ⟨[.bool true,.int .i64 0,.int .i64 0,.int .i64 0]⟩),(123,.int .i64 (Ay k0.1 k0.2.1 k0.2.2.1 k0.2.2.2 k1.1 k1.2.1 k1.2.2.1 k1.2.2.2))],BT (AU true 0 0 0 (Ay k0.1 k0.2.1 k0.2.2.1 k0.2.2.2 k1.1 k1.2.1 k1.2.2.1 k1.2.2.2)),true⟩] [(9,2,0),(10,0,0)] K60.G (fun sp hsp=>?_) fun z81 w81 K61=>?_
              ·simp only [List.mem_cons,List.not_mem_nil,or_false] at hsp
               rcases hsp with rfl | rfl
               ·exact AR 153 [.tmp 120,.tmp 122] [.agg ⟨[.bool (k0.1),.int .i64 k0.2.1,.int .i64 k0.2.2.1,.int .i64 k0.2.2.2]⟩,.agg ⟨[.bool (k1.1),.int .i64 k1.2.1,.int .i64 k1.2.2.1,.int .i64 k1.2.2.2]⟩] (fun _=>by kernel_rfl) fun hc u hu=>AP hu (ES k0.1 k0.2.1 k0.2.2.1 k0.2.2.2 k1.1 k1.2.1 k1.2.2.1 k1.2.2.2 u)
               ·exact AR 152 [.tmp 118,.tmp 123] [.agg ⟨[.bool true,.int .i64 0,.int .i64 0,.int .i64 0]⟩,.int .i64 (Ay k0.1 k0.2.1 k0.2.2.1 k0.2.2.2 k1.1 k1.2.1 k1.2.2.1 k1.2.2.2)] (fun _=>by kernel_rfl) fun hc u hu=>AP hu (Cu true 0 0 0 (Ay k0.1 k0.2.1 k0.2.2.1 k0.2.2.2 k1.1 k1.2.1 k1.2.2.1 k1.2.2.2) u)
              refine AC gj K61 [] fun w82 K62=>?_
              exact Aa K62 (2,0) (BT (AU true 0 0 0 (Ay k0.1 k0.2.1 k0.2.2.1 k0.2.2.2 k1.1 k1.2.1 k1.2.2.1 k1.2.2.2))) (hk _ _ ⟨by unfold Ch; rw [c2,c5,c8,c13,c20,c25,c39,c46,c53,c60,c65,c72,c77] <;> rfl,K62.B⟩)
             ·refine AC PZ K58 [] fun w83 K63=>?_
              refine AK (x.op == 10) (fun c84=>?_) (fun c84=>?_)
              ·refine Ag 36 V8 K63 [] fun w85 K64=>?_
               refine HH K64 [0,1,2,3,4,5,6,7,8] [(0,4,0),(2,3,0),(4,3,4)] [⟨5,[(120,.agg ⟨[.bool (k0.1),.int .i64 k0.2.1,.int .i64 k0.2.2.1,.int .i64 k0.2.2.2]⟩),(122,.agg ⟨[.bool (k1.1),.int .i64 k1.2.1,.int .i64 k1.2.2.1,.int .i64 k1.2.2.2]⟩)],.int .i64 (Ay k0.1 k0.2.1 k0.2.2.1 k0.2.2.2 k1.1 k1.2.1 k1.2.2.1 k1.2.2.2),true⟩,⟨6,[(118,.agg ⟨[.bool true,.int .i64 0,.int .i64 0,.int .i64 0]⟩),(123,.int .i64 (Ay k0.1 k0.2.1 k0.2.2.1 k0.2.2.2 k1.1 k1.2.1 k1.2.2.1 k1.2.2.2))],BT (AU true 0 0 0 (Ay k0.1 k0.2.1 k0.2.2.1 k0.2.2.2 k1.1 k1.2.1 k1.2.2.1 k1.2.2.2)),true⟩] [(9,2,0),(10,0,0)] K64.G (fun sp hsp=>?_) fun z86 w86 K65=>?_
               ·simp only [List.mem_cons,List.not_mem_nil,or_false] at hsp
                rcases hsp with rfl | rfl
                ·exact AR 153 [.tmp 120,.tmp 122] [.agg ⟨[.bool (k0.1),.int .i64 k0.2.1,.int .i64 k0.2.2.1,.int .i64 k0.2.2.2]⟩,.agg ⟨[.bool (k1.1),.int .i64 k1.2.1,.int .i64 k1.2.2.1,.int .i64 k1.2.2.2]⟩] (fun _=>by kernel_rfl) fun hc u hu=>AP hu (ES k0.1 k0.2.1 k0.2.2.1 k0.2.2.2 k1.1 k1.2.1 k1.2.2.1 k1.2.2.2 u)
                ·exact AR 152 [.tmp 118,.tmp 123] [.agg ⟨[.bool true,.int .i64 0,.int .i64 0,.int .i64 0]⟩,.int .i64 (Ay k0.1 k0.2.1 k0.2.2.1 k0.2.2.2 k1.1 k1.2.1 k1.2.2.1 k1.2.2.2)] (fun _=>by kernel_rfl) fun hc u hu=>AP hu (Cu true 0 0 0 (Ay k0.1 k0.2.1 k0.2.2.1 k0.2.2.2 k1.1 k1.2.1 k1.2.2.1 k1.2.2.2) u)
               refine AC gi K65 [] fun w87 K66=>?_
               exact Aa K66 (2,0) (BT (AU true 0 0 0 (Ay k0.1 k0.2.1 k0.2.2.1 k0.2.2.2 k1.1 k1.2.1 k1.2.2.1 k1.2.2.2))) (hk _ _ ⟨by unfold Ch; rw [c2,c5,c8,c13,c20,c25,c39,c46,c53,c60,c65,c72,c77,c84] <;> rfl,K66.B⟩)
              ·refine AC PY K63 [] fun w88 K67=>?_
               refine AK (x.op == 11) (fun c89=>?_) (fun c89=>?_)
               ·refine Ag 38 V7 K67 [] fun w90 K68=>?_
                refine HH K68 [0,1,2,3,4,5,6,7,8] [(0,4,0),(2,3,0),(4,3,4)] [⟨5,[(131,.agg ⟨[.bool (k0.1),.int .i64 k0.2.1,.int .i64 k0.2.2.1,.int .i64 k0.2.2.2]⟩),(133,.agg ⟨[.bool (k1.1),.int .i64 k1.2.1,.int .i64 k1.2.2.1,.int .i64 k1.2.2.2]⟩)],.int .i64 (Ey k0.1 k0.2.1 k0.2.2.1 k0.2.2.2 k1.1 k1.2.1 k1.2.2.1 k1.2.2.2),true⟩,⟨6,[(129,.agg ⟨[.bool true,.int .i64 0,.int .i64 0,.int .i64 0]⟩),(134,.int .i64 (Ey k0.1 k0.2.1 k0.2.2.1 k0.2.2.2 k1.1 k1.2.1 k1.2.2.1 k1.2.2.2))],BT (AU true 0 0 0 (Ey k0.1 k0.2.1 k0.2.2.1 k0.2.2.2 k1.1 k1.2.1 k1.2.2.1 k1.2.2.2)),true⟩] [(9,2,0),(10,0,0)] K68.G (fun sp hsp=>?_) fun z91 w91 K69=>?_
                ·simp only [List.mem_cons,List.not_mem_nil,or_false] at hsp
                 rcases hsp with rfl | rfl
                 ·exact AR 155 [.tmp 131,.tmp 133] [.agg ⟨[.bool (k0.1),.int .i64 k0.2.1,.int .i64 k0.2.2.1,.int .i64 k0.2.2.2]⟩,.agg ⟨[.bool (k1.1),.int .i64 k1.2.1,.int .i64 k1.2.2.1,.int .i64 k1.2.2.2]⟩] (fun _=>by kernel_rfl) fun hc u hu=>AP hu (OE k0.1 k0.2.1 k0.2.2.1 k0.2.2.2 k1.1 k1.2.1 k1.2.2.1 k1.2.2.2 u)
                 ·exact AR 152 [.tmp 129,.tmp 134] [.agg ⟨[.bool true,.int .i64 0,.int .i64 0,.int .i64 0]⟩,.int .i64 (Ey k0.1 k0.2.1 k0.2.2.1 k0.2.2.2 k1.1 k1.2.1 k1.2.2.1 k1.2.2.2)] (fun _=>by kernel_rfl) fun hc u hu=>AP hu (Cu true 0 0 0 (Ey k0.1 k0.2.1 k0.2.2.1 k0.2.2.2 k1.1 k1.2.1 k1.2.2.1 k1.2.2.2) u)
                refine AC gh K69 [] fun w92 K70=>?_
                exact Aa K70 (2,0) (BT (AU true 0 0 0 (Ey k0.1 k0.2.1 k0.2.2.1 k0.2.2.2 k1.1 k1.2.1 k1.2.2.1 k1.2.2.2))) (hk _ _ ⟨by unfold Ch; rw [c2,c5,c8,c13,c20,c25,c39,c46,c53,c60,c65,c72,c77,c84,c89] <;> rfl,K70.B⟩)
               ·refine AC PX K67 [] fun w93 K71=>?_
                refine AK (x.op == 12) (fun c94=>?_) (fun c94=>?_)
                ·refine AC V6 K71 [] fun w95 K72=>?_
                 refine AK (x.op == 12) (fun _=>?_) (fun h=>nomatch h.symm.trans c94)
                 refine Ag 41 PW K72 [] fun w97 K73=>?_
                 refine DY LU 12 ?_
                 refine Ce (md:=.any) (fuel:=2) (L:=[Ar 0 [] (.agg ⟨[.bool true,.int .i64 0,.int .i64 0,.int .i64 0]⟩),Ar 1 [] (.pointer (some ⟨g6,0,none⟩)),Ar 2 [1] (.agg ⟨[.bool (k0.1),.int .i64 k0.2.1,.int .i64 k0.2.2.1,.int .i64 k0.2.2.2]⟩),Ar 3 [] (.pointer (some ⟨g6,4,none⟩)),Ar 4 [3] (.agg ⟨[.bool (k1.1),.int .i64 k1.2.1,.int .i64 k1.2.2.1,.int .i64 k1.2.2.2]⟩),⟨5,[2,4],[5],Hu 2 4 [[.bool (k0.1),.int .i64 k0.2.1,.int .i64 k0.2.2.1,.int .i64 k0.2.2.2],[.bool (k1.1),.int .i64 k1.2.1,.int .i64 k1.2.2.1,.int .i64 k1.2.2.2]]⟩,Ar 6 [5] (.int .i64 (An [(k0.1,k0.2.1,k0.2.2.1,k0.2.2.2),(k1.1,k1.2.1,k1.2.2.1,k1.2.2.2)])),Ar 7 [0,6] (BT (AU true 0 0 0 (An [(k0.1,k0.2.1,k0.2.2.1,k0.2.2.2),(k1.1,k1.2.1,k1.2.2.1,k1.2.2.2)]))),Ar 8 [7] (.agg ⟨[.bool ((AU true 0 0 0 (An [(k0.1,k0.2.1,k0.2.2.1,k0.2.2.2),(k1.1,k1.2.1,k1.2.2.1,k1.2.2.2)])).1),.int .i64 ((AU true 0 0 0 (An [(k0.1,k0.2.1,k0.2.2.1,k0.2.2.2),(k1.1,k1.2.1,k1.2.2.1,k1.2.2.2)])).2.1),.int .i64 ((AU true 0 0 0 (An [(k0.1,k0.2.1,k0.2.2.1,k0.2.2.2),(k1.1,k1.2.1,k1.2.2.1,k1.2.2.2)])).2.2.1),.int .i64 ((AU true 0 0 0 (An [(k0.1,k0.2.1,k0.2.2.1,k0.2.2.2),(k1.1,k1.2.1,k1.2.2.1,k1.2.2.2)])).2.2.2.1)]⟩),Ar 9 [7] (.int .i64 ((AU true 0 0 0 (An [(k0.1,k0.2.1,k0.2.2.1,k0.2.2.2),(k1.1,k1.2.1,k1.2.2.1,k1.2.2.2)])).2.2.2.2))]) (W:=eZ) (C:=fun u=>Below w97.heap.size w97 u) (Ext:=CQ) (Below.refl _ _).drew CQ.refl (fun _ _ _=>CQ.trans) ⟨?_,?_,?_,?_,?_,?_,?_,?_,?_,?_,trivial⟩ rfl ?_
                 ·refine ⟨fun _ _ _ _ _ h=>h,fun vals u hu hb=>?_⟩
                  exact AN.knownE [] trivial (AN.reads ⟨0,_,(4,0),[]⟩ (Au K73.G hu) (.agg ⟨[.bool true,.int .i64 0,.int .i64 0,.int .i64 0]⟩) ⟨hu,.refl _,rfl⟩)
                 ·refine ⟨fun _ _ _ _ _ h=>h,fun vals u hu hb=>?_⟩
                  exact AN.knownE [] trivial (AN.reads ⟨0,[],(0,0),[]⟩ (fun e he=>by cases he) (.pointer (some ⟨g6,0,none⟩)) ⟨hu,.refl _,rfl⟩)
                 ·refine ⟨fun _ _ _ _ _ h=>h,fun vals u hu hb=>?_⟩
                  obtain ⟨h1,_⟩:=hb
                  exact AN.knownE [(142,1,.pointer (some ⟨g6,0,none⟩))] ⟨(List.cons.inj h1).1,trivial⟩ (AN.reads ⟨0,_,(3,0),[]⟩ (Au K73.G hu) (.agg ⟨[.bool (k0.1),.int .i64 k0.2.1,.int .i64 k0.2.2.1,.int .i64 k0.2.2.2]⟩) ⟨hu,.refl _,rfl⟩)
                 ·refine ⟨fun _ _ _ _ _ h=>h,fun vals u hu hb=>?_⟩
                  exact AN.knownE [] trivial (AN.reads ⟨0,[],(0,0),[]⟩ (fun e he=>by cases he) (.pointer (some ⟨g6,4,none⟩)) ⟨hu,.refl _,rfl⟩)
                 ·refine ⟨fun _ _ _ _ _ h=>h,fun vals u hu hb=>?_⟩
                  obtain ⟨h3,_⟩:=hb
                  exact AN.knownE [(144,3,.pointer (some ⟨g6,4,none⟩))] ⟨(List.cons.inj h3).1,trivial⟩ (AN.reads ⟨0,_,(3,4),[]⟩ (Au K73.G hu) (.agg ⟨[.bool (k1.1),.int .i64 k1.2.1,.int .i64 k1.2.2.1,.int .i64 k1.2.2.2]⟩) ⟨hu,.refl _,rfl⟩)
                 ·refine ⟨fun _ _ _ _ he h=>h.keep he,fun vals u hu hb=>?_⟩
                  obtain ⟨h2,h4,_⟩:=hb
                  refine AN.knownE [(143,2,.agg ⟨[.bool (k0.1),.int .i64 k0.2.1,.int .i64 k0.2.2.1,.int .i64 k0.2.2.2]⟩),(145,4,.agg ⟨[.bool (k1.1),.int .i64 k1.2.1,.int .i64 k1.2.2.1,.int .i64 k1.2.2.2]⟩)] ⟨(List.cons.inj h2).1,(List.cons.inj h4).1,trivial⟩ (AN.runsK ⟨u.heap.size,[],(0,0),[]⟩ ⟨u.heap.size + 1,[⟨u.heap.size,0,[.bool (k0.1),.int .i64 k0.2.1,.int .i64 k0.2.2.1,.int .i64 k0.2.2.2,.bool (k1.1),.int .i64 k1.2.1,.int .i64 k1.2.2.1,.int .i64 k1.2.2.2],26,true⟩],(0,0),[]⟩ (.value (.slice (some ⟨u.heap.size,0,none⟩) 2 2)) (.slice (some ⟨u.heap.size,0,none⟩) 2 2) (.inl rfl) (Bm u) rfl fun u2 hL hK=>?_)
                  have Bq:Below u.heap.size u u2:=hK.below (Nat.le_refl _) (fun k hk=>by cases hk)
                  exact ⟨hu.trans (Bq.mono hu.size),Bq,⟨_,rfl,D2 (rs:=[[.bool (k0.1),.int .i64 k0.2.1,.int .i64 k0.2.2.1,.int .i64 k0.2.2.2],[.bool (k1.1),.int .i64 k1.2.1,.int .i64 k1.2.2.1,.int .i64 k1.2.2.2]]) (by simp) (hL.sat.good _ (List.mem_singleton.2 rfl))⟩⟩
                 ·refine ⟨fun _ _ _ _ _ h=>h,fun vals u hu hb=>?_⟩
                  obtain ⟨h5,_⟩:=hb
                  obtain ⟨gb5,hv5b,hr5⟩:=h5
                  refine AN.knownE [(146,5,.slice (some ⟨gb5,0,none⟩) 2 2)] ⟨(List.cons.inj hv5b).1,trivial⟩ (AN.call (f:=156) [.tmp 146] (args:=[.slice (some ⟨gb5,0,none⟩) 2 2]) (ats:=#[90]) rfl (Ci _ _) ((IY (some ⟨gb5,0,none⟩) [(k0.1,k0.2.1,k0.2.2.1,k0.2.2.2),(k1.1,k1.2.1,k1.2.2.1,k1.2.2.2)] 2 u hr5 (by first | assumption | omega | (simp <;> omega))).mono fun en u2 hh=>?_))
                  obtain ⟨rfl,bb⟩:=hh
                  exact ⟨_,rfl,hu.trans (bb.mono hu.size),bb,rfl⟩
                 ·refine ⟨fun _ _ _ _ _ h=>h,fun vals u hu hb=>?_⟩
                  obtain ⟨h0,h6,_⟩:=hb
                  refine AN.knownE [(141,0,.agg ⟨[.bool true,.int .i64 0,.int .i64 0,.int .i64 0]⟩),(147,6,.int .i64 (An [(k0.1,k0.2.1,k0.2.2.1,k0.2.2.2),(k1.1,k1.2.1,k1.2.2.1,k1.2.2.2)]))] ⟨(List.cons.inj h0).1,(List.cons.inj h6).1,trivial⟩ (AN.call (f:=152) [.tmp 141,.tmp 147] (args:=[.agg ⟨[.bool true,.int .i64 0,.int .i64 0,.int .i64 0]⟩,.int .i64 (An [(k0.1,k0.2.1,k0.2.2.1,k0.2.2.2),(k1.1,k1.2.1,k1.2.2.1,k1.2.2.2)])]) (ats:=#[26,44]) rfl (Ci _ _) ((Cu true 0 0 0 (An [(k0.1,k0.2.1,k0.2.2.1,k0.2.2.2),(k1.1,k1.2.1,k1.2.2.1,k1.2.2.2)]) u).mono fun en u2 hh=>?_))
                  obtain ⟨rfl,bb⟩:=hh
                  exact ⟨_,rfl,hu.trans (bb.mono hu.size),bb,rfl⟩
                 ·refine ⟨fun _ _ _ _ _ h=>h,fun vals u hu hb=>?_⟩
                  obtain ⟨h7,_⟩:=hb
                  exact AN.knownE [(148,7,BT (AU true 0 0 0 (An [(k0.1,k0.2.1,k0.2.2.1,k0.2.2.2),(k1.1,k1.2.1,k1.2.2.1,k1.2.2.2)])))] ⟨(List.cons.inj h7).1,trivial⟩ (AN.reads ⟨0,[],(0,0),[]⟩ (fun e he=>by cases he) (.agg ⟨[.bool ((AU true 0 0 0 (An [(k0.1,k0.2.1,k0.2.2.1,k0.2.2.2),(k1.1,k1.2.1,k1.2.2.1,k1.2.2.2)])).1),.int .i64 ((AU true 0 0 0 (An [(k0.1,k0.2.1,k0.2.2.1,k0.2.2.2),(k1.1,k1.2.1,k1.2.2.1,k1.2.2.2)])).2.1),.int .i64 ((AU true 0 0 0 (An [(k0.1,k0.2.1,k0.2.2.1,k0.2.2.2),(k1.1,k1.2.1,k1.2.2.1,k1.2.2.2)])).2.2.1),.int .i64 ((AU true 0 0 0 (An [(k0.1,k0.2.1,k0.2.2.1,k0.2.2.2),(k1.1,k1.2.1,k1.2.2.1,k1.2.2.2)])).2.2.2.1)]⟩) ⟨hu,.refl _,rfl⟩)
                 ·refine ⟨fun _ _ _ _ _ h=>h,fun vals u hu hb=>?_⟩
                  obtain ⟨h7,_⟩:=hb
                  exact AN.knownE [(148,7,BT (AU true 0 0 0 (An [(k0.1,k0.2.1,k0.2.2.1,k0.2.2.2),(k1.1,k1.2.1,k1.2.2.1,k1.2.2.2)])))] ⟨(List.cons.inj h7).1,trivial⟩ (AN.reads ⟨0,[],(0,0),[]⟩ (fun e he=>by cases he) (.int .i64 ((AU true 0 0 0 (An [(k0.1,k0.2.1,k0.2.2.1,k0.2.2.2),(k1.1,k1.2.1,k1.2.2.1,k1.2.2.2)])).2.2.2.2)) ⟨hu,.refl _,rfl⟩)
                 intro vals w98 b98 _ hall
                 replace b98:Below w97.heap.size w97 w98:=b98
                 obtain ⟨x0,x1,x2,x3,x4,x5,x6,x7,x8,x9,_⟩:=hall
                 have K74:=K73.below b98
                 refine C0 [(4,.pointer (some ⟨g4,0,none⟩)),(149,vals 8),(150,vals 9)] fun E98=>?_
                 rw [show vals 8=.agg ⟨[.bool ((AU true 0 0 0 (An [(k0.1,k0.2.1,k0.2.2.1,k0.2.2.2),(k1.1,k1.2.1,k1.2.2.1,k1.2.2.2)])).1),.int .i64 ((AU true 0 0 0 (An [(k0.1,k0.2.1,k0.2.2.1,k0.2.2.2),(k1.1,k1.2.1,k1.2.2.1,k1.2.2.2)])).2.1),.int .i64 ((AU true 0 0 0 (An [(k0.1,k0.2.1,k0.2.2.1,k0.2.2.2),(k1.1,k1.2.1,k1.2.2.1,k1.2.2.2)])).2.2.1),.int .i64 ((AU true 0 0 0 (An [(k0.1,k0.2.1,k0.2.2.1,k0.2.2.2),(k1.1,k1.2.1,k1.2.2.1,k1.2.2.2)])).2.2.2.1)]⟩ from (List.cons.inj x8).1]
                 rw [show vals 9=.int .i64 ((AU true 0 0 0 (An [(k0.1,k0.2.1,k0.2.2.1,k0.2.2.2),(k1.1,k1.2.1,k1.2.2.1,k1.2.2.2)])).2.2.2.2) from (List.cons.inj x9).1]
                 refine DW (i:=10) K74 (LU.getD 10 default) (2,0) (undef) fun w99 K75=>?_
                 refine DW (i:=11) K75 (LU.getD 11 default) (0,0) (.int .i64 ((AU true 0 0 0 (An [(k0.1,k0.2.1,k0.2.2.1,k0.2.2.2),(k1.1,k1.2.1,k1.2.2.1,k1.2.2.2)])).2.2.2.2)) fun w100 K76=>?_
                 refine DV ⟨rfl,At.mid ?_⟩
                 refine AC gg K76 [] fun w101 K77=>?_
                 exact Aa K77 (2,0) (BT (AU true 0 0 0 (An [(k0.1,k0.2.1,k0.2.2.1,k0.2.2.2),(k1.1,k1.2.1,k1.2.2.1,k1.2.2.2)]))) (hk _ _ ⟨by unfold Ch; rw [c2,c5,c8,c13,c20,c25,c39,c46,c53,c60,c65,c72,c77,c84,c89,c94] <;> rfl,K77.B⟩)
                ·refine AC PV K71 [] fun w102 K78=>?_
                 refine AK (x.op == 13) (fun c103=>?_) (fun c103=>?_)
                 ·refine Ag 41 PU K78 [] fun w104 K79=>?_
                  refine DY JF 12 ?_
                  refine Ce (md:=.any) (fuel:=2) (L:=[Ar 0 [] (.agg ⟨[.bool true,.int .i64 0,.int .i64 0,.int .i64 0]⟩),Ar 1 [] (.pointer (some ⟨g6,0,none⟩)),Ar 2 [1] (.agg ⟨[.bool (k0.1),.int .i64 k0.2.1,.int .i64 k0.2.2.1,.int .i64 k0.2.2.2]⟩),Ar 3 [] (.pointer (some ⟨g6,4,none⟩)),Ar 4 [3] (.agg ⟨[.bool (k1.1),.int .i64 k1.2.1,.int .i64 k1.2.2.1,.int .i64 k1.2.2.2]⟩),⟨5,[2,4],[5],Hu 2 4 [[.bool (k0.1),.int .i64 k0.2.1,.int .i64 k0.2.2.1,.int .i64 k0.2.2.2],[.bool (k1.1),.int .i64 k1.2.1,.int .i64 k1.2.2.1,.int .i64 k1.2.2.2]]⟩,Ar 6 [5] (.int .i64 (An [(k0.1,k0.2.1,k0.2.2.1,k0.2.2.2),(k1.1,k1.2.1,k1.2.2.1,k1.2.2.2)])),Ar 7 [0,6] (BT (AU true 0 0 0 (An [(k0.1,k0.2.1,k0.2.2.1,k0.2.2.2),(k1.1,k1.2.1,k1.2.2.1,k1.2.2.2)]))),Ar 8 [7] (.agg ⟨[.bool ((AU true 0 0 0 (An [(k0.1,k0.2.1,k0.2.2.1,k0.2.2.2),(k1.1,k1.2.1,k1.2.2.1,k1.2.2.2)])).1),.int .i64 ((AU true 0 0 0 (An [(k0.1,k0.2.1,k0.2.2.1,k0.2.2.2),(k1.1,k1.2.1,k1.2.2.1,k1.2.2.2)])).2.1),.int .i64 ((AU true 0 0 0 (An [(k0.1,k0.2.1,k0.2.2.1,k0.2.2.2),(k1.1,k1.2.1,k1.2.2.1,k1.2.2.2)])).2.2.1),.int .i64 ((AU true 0 0 0 (An [(k0.1,k0.2.1,k0.2.2.1,k0.2.2.2),(k1.1,k1.2.1,k1.2.2.1,k1.2.2.2)])).2.2.2.1)]⟩),Ar 9 [7] (.int .i64 ((AU true 0 0 0 (An [(k0.1,k0.2.1,k0.2.2.1,k0.2.2.2),(k1.1,k1.2.1,k1.2.2.1,k1.2.2.2)])).2.2.2.2))]) (W:=Vu) (C:=fun u=>Below w104.heap.size w104 u) (Ext:=CQ) (Below.refl _ _).drew CQ.refl (fun _ _ _=>CQ.trans) ⟨?_,?_,?_,?_,?_,?_,?_,?_,?_,?_,trivial⟩ rfl ?_
                  ·refine ⟨fun _ _ _ _ _ h=>h,fun vals u hu hb=>?_⟩
                   exact AN.knownE [] trivial (AN.reads ⟨0,_,(4,0),[]⟩ (Au K79.G hu) (.agg ⟨[.bool true,.int .i64 0,.int .i64 0,.int .i64 0]⟩) ⟨hu,.refl _,rfl⟩)
                  ·refine ⟨fun _ _ _ _ _ h=>h,fun vals u hu hb=>?_⟩
                   exact AN.knownE [] trivial (AN.reads ⟨0,[],(0,0),[]⟩ (fun e he=>by cases he) (.pointer (some ⟨g6,0,none⟩)) ⟨hu,.refl _,rfl⟩)
                  ·refine ⟨fun _ _ _ _ _ h=>h,fun vals u hu hb=>?_⟩
                   obtain ⟨h1,_⟩:=hb
                   exact AN.knownE [(142,1,.pointer (some ⟨g6,0,none⟩))] ⟨(List.cons.inj h1).1,trivial⟩ (AN.reads ⟨0,_,(3,0),[]⟩ (Au K79.G hu) (.agg ⟨[.bool (k0.1),.int .i64 k0.2.1,.int .i64 k0.2.2.1,.int .i64 k0.2.2.2]⟩) ⟨hu,.refl _,rfl⟩)
                  ·refine ⟨fun _ _ _ _ _ h=>h,fun vals u hu hb=>?_⟩
                   exact AN.knownE [] trivial (AN.reads ⟨0,[],(0,0),[]⟩ (fun e he=>by cases he) (.pointer (some ⟨g6,4,none⟩)) ⟨hu,.refl _,rfl⟩)
                  ·refine ⟨fun _ _ _ _ _ h=>h,fun vals u hu hb=>?_⟩
                   obtain ⟨h3,_⟩:=hb
                   exact AN.knownE [(144,3,.pointer (some ⟨g6,4,none⟩))] ⟨(List.cons.inj h3).1,trivial⟩ (AN.reads ⟨0,_,(3,4),[]⟩ (Au K79.G hu) (.agg ⟨[.bool (k1.1),.int .i64 k1.2.1,.int .i64 k1.2.2.1,.int .i64 k1.2.2.2]⟩) ⟨hu,.refl _,rfl⟩)
                  ·refine ⟨fun _ _ _ _ he h=>h.keep he,fun vals u hu hb=>?_⟩
                   obtain ⟨h2,h4,_⟩:=hb
                   refine AN.knownE [(143,2,.agg ⟨[.bool (k0.1),.int .i64 k0.2.1,.int .i64 k0.2.2.1,.int .i64 k0.2.2.2]⟩),(145,4,.agg ⟨[.bool (k1.1),.int .i64 k1.2.1,.int .i64 k1.2.2.1,.int .i64 k1.2.2.2]⟩)] ⟨(List.cons.inj h2).1,(List.cons.inj h4).1,trivial⟩ (AN.runsK ⟨u.heap.size,[],(0,0),[]⟩ ⟨u.heap.size + 1,[⟨u.heap.size,0,[.bool (k0.1),.int .i64 k0.2.1,.int .i64 k0.2.2.1,.int .i64 k0.2.2.2,.bool (k1.1),.int .i64 k1.2.1,.int .i64 k1.2.2.1,.int .i64 k1.2.2.2],26,true⟩],(0,0),[]⟩ (.value (.slice (some ⟨u.heap.size,0,none⟩) 2 2)) (.slice (some ⟨u.heap.size,0,none⟩) 2 2) (.inl rfl) (Bm u) rfl fun u2 hL hK=>?_)
                   have Bq:Below u.heap.size u u2:=hK.below (Nat.le_refl _) (fun k hk=>by cases hk)
                   exact ⟨hu.trans (Bq.mono hu.size),Bq,⟨_,rfl,D2 (rs:=[[.bool (k0.1),.int .i64 k0.2.1,.int .i64 k0.2.2.1,.int .i64 k0.2.2.2],[.bool (k1.1),.int .i64 k1.2.1,.int .i64 k1.2.2.1,.int .i64 k1.2.2.2]]) (by simp) (hL.sat.good _ (List.mem_singleton.2 rfl))⟩⟩
                  ·refine ⟨fun _ _ _ _ _ h=>h,fun vals u hu hb=>?_⟩
                   obtain ⟨h5,_⟩:=hb
                   obtain ⟨gb5,hv5b,hr5⟩:=h5
                   refine AN.knownE [(146,5,.slice (some ⟨gb5,0,none⟩) 2 2)] ⟨(List.cons.inj hv5b).1,trivial⟩ (AN.call (f:=156) [.tmp 146] (args:=[.slice (some ⟨gb5,0,none⟩) 2 2]) (ats:=#[90]) rfl (Ci _ _) ((IY (some ⟨gb5,0,none⟩) [(k0.1,k0.2.1,k0.2.2.1,k0.2.2.2),(k1.1,k1.2.1,k1.2.2.1,k1.2.2.2)] 2 u hr5 (by first | assumption | omega | (simp <;> omega))).mono fun en u2 hh=>?_))
                   obtain ⟨rfl,bb⟩:=hh
                   exact ⟨_,rfl,hu.trans (bb.mono hu.size),bb,rfl⟩
                  ·refine ⟨fun _ _ _ _ _ h=>h,fun vals u hu hb=>?_⟩
                   obtain ⟨h0,h6,_⟩:=hb
                   refine AN.knownE [(141,0,.agg ⟨[.bool true,.int .i64 0,.int .i64 0,.int .i64 0]⟩),(147,6,.int .i64 (An [(k0.1,k0.2.1,k0.2.2.1,k0.2.2.2),(k1.1,k1.2.1,k1.2.2.1,k1.2.2.2)]))] ⟨(List.cons.inj h0).1,(List.cons.inj h6).1,trivial⟩ (AN.call (f:=152) [.tmp 141,.tmp 147] (args:=[.agg ⟨[.bool true,.int .i64 0,.int .i64 0,.int .i64 0]⟩,.int .i64 (An [(k0.1,k0.2.1,k0.2.2.1,k0.2.2.2),(k1.1,k1.2.1,k1.2.2.1,k1.2.2.2)])]) (ats:=#[26,44]) rfl (Ci _ _) ((Cu true 0 0 0 (An [(k0.1,k0.2.1,k0.2.2.1,k0.2.2.2),(k1.1,k1.2.1,k1.2.2.1,k1.2.2.2)]) u).mono fun en u2 hh=>?_))
                   obtain ⟨rfl,bb⟩:=hh
                   exact ⟨_,rfl,hu.trans (bb.mono hu.size),bb,rfl⟩
                  ·refine ⟨fun _ _ _ _ _ h=>h,fun vals u hu hb=>?_⟩
                   obtain ⟨h7,_⟩:=hb
                   exact AN.knownE [(148,7,BT (AU true 0 0 0 (An [(k0.1,k0.2.1,k0.2.2.1,k0.2.2.2),(k1.1,k1.2.1,k1.2.2.1,k1.2.2.2)])))] ⟨(List.cons.inj h7).1,trivial⟩ (AN.reads ⟨0,[],(0,0),[]⟩ (fun e he=>by cases he) (.agg ⟨[.bool ((AU true 0 0 0 (An [(k0.1,k0.2.1,k0.2.2.1,k0.2.2.2),(k1.1,k1.2.1,k1.2.2.1,k1.2.2.2)])).1),.int .i64 ((AU true 0 0 0 (An [(k0.1,k0.2.1,k0.2.2.1,k0.2.2.2),(k1.1,k1.2.1,k1.2.2.1,k1.2.2.2)])).2.1),.int .i64 ((AU true 0 0 0 (An [(k0.1,k0.2.1,k0.2.2.1,k0.2.2.2),(k1.1,k1.2.1,k1.2.2.1,k1.2.2.2)])).2.2.1),.int .i64 ((AU true 0 0 0 (An [(k0.1,k0.2.1,k0.2.2.1,k0.2.2.2),(k1.1,k1.2.1,k1.2.2.1,k1.2.2.2)])).2.2.2.1)]⟩) ⟨hu,.refl _,rfl⟩)
                  ·refine ⟨fun _ _ _ _ _ h=>h,fun vals u hu hb=>?_⟩
                   obtain ⟨h7,_⟩:=hb
                   exact AN.knownE [(148,7,BT (AU true 0 0 0 (An [(k0.1,k0.2.1,k0.2.2.1,k0.2.2.2),(k1.1,k1.2.1,k1.2.2.1,k1.2.2.2)])))] ⟨(List.cons.inj h7).1,trivial⟩ (AN.reads ⟨0,[],(0,0),[]⟩ (fun e he=>by cases he) (.int .i64 ((AU true 0 0 0 (An [(k0.1,k0.2.1,k0.2.2.1,k0.2.2.2),(k1.1,k1.2.1,k1.2.2.1,k1.2.2.2)])).2.2.2.2)) ⟨hu,.refl _,rfl⟩)
                  intro vals w105 b105 _ hall
                  replace b105:Below w104.heap.size w104 w105:=b105
                  obtain ⟨x0,x1,x2,x3,x4,x5,x6,x7,x8,x9,_⟩:=hall
                  have K80:=K79.below b105
                  refine C0 [(4,.pointer (some ⟨g4,0,none⟩)),(149,vals 8),(150,vals 9)] fun E105=>?_
                  rw [show vals 8=.agg ⟨[.bool ((AU true 0 0 0 (An [(k0.1,k0.2.1,k0.2.2.1,k0.2.2.2),(k1.1,k1.2.1,k1.2.2.1,k1.2.2.2)])).1),.int .i64 ((AU true 0 0 0 (An [(k0.1,k0.2.1,k0.2.2.1,k0.2.2.2),(k1.1,k1.2.1,k1.2.2.1,k1.2.2.2)])).2.1),.int .i64 ((AU true 0 0 0 (An [(k0.1,k0.2.1,k0.2.2.1,k0.2.2.2),(k1.1,k1.2.1,k1.2.2.1,k1.2.2.2)])).2.2.1),.int .i64 ((AU true 0 0 0 (An [(k0.1,k0.2.1,k0.2.2.1,k0.2.2.2),(k1.1,k1.2.1,k1.2.2.1,k1.2.2.2)])).2.2.2.1)]⟩ from (List.cons.inj x8).1]
                  rw [show vals 9=.int .i64 ((AU true 0 0 0 (An [(k0.1,k0.2.1,k0.2.2.1,k0.2.2.2),(k1.1,k1.2.1,k1.2.2.1,k1.2.2.2)])).2.2.2.2) from (List.cons.inj x9).1]
                  refine DW (i:=10) K80 (JF.getD 10 default) (2,0) (undef) fun w106 K81=>?_
                  refine DW (i:=11) K81 (JF.getD 11 default) (0,0) (.int .i64 ((AU true 0 0 0 (An [(k0.1,k0.2.1,k0.2.2.1,k0.2.2.2),(k1.1,k1.2.1,k1.2.2.1,k1.2.2.2)])).2.2.2.2)) fun w107 K82=>?_
                  refine DV ⟨rfl,At.mid ?_⟩
                  refine AC gf K82 [] fun w108 K83=>?_
                  exact Aa K83 (2,0) (BT (AU true 0 0 0 (An [(k0.1,k0.2.1,k0.2.2.1,k0.2.2.2),(k1.1,k1.2.1,k1.2.2.1,k1.2.2.2)]))) (hk _ _ ⟨by unfold Ch; rw [c2,c5,c8,c13,c20,c25,c39,c46,c53,c60,c65,c72,c77,c84,c89,c94,c103] <;> rfl,K83.B⟩)
                 ·refine AC PT K78 [] fun w109 K84=>?_
                  refine AK (x.op == 17) (fun c110=>?_) (fun c110=>?_)
                  ·refine Ag 43 PS K84 [] fun w111 K85=>?_
                   refine DY LT 10 ?_
                   refine Ce (md:=.any) (fuel:=2) (L:=[Ar 0 [] (.agg ⟨[.bool true,.int .i64 0,.int .i64 0,.int .i64 0]⟩),Ar 1 [] (.pointer (some ⟨g6,0,none⟩)),Ar 2 [1] (.agg ⟨[.bool (k0.1),.int .i64 k0.2.1,.int .i64 k0.2.2.1,.int .i64 k0.2.2.2]⟩),⟨3,[2],[3],Hu 1 4 [[.bool (k0.1),.int .i64 k0.2.1,.int .i64 k0.2.2.1,.int .i64 k0.2.2.2]]⟩,Ar 4 [3] (.int .i64 (An [(k0.1,k0.2.1,k0.2.2.1,k0.2.2.2)])),Ar 5 [0,4] (BT (AU true 0 0 0 (An [(k0.1,k0.2.1,k0.2.2.1,k0.2.2.2)]))),Ar 6 [5] (.agg ⟨[.bool ((AU true 0 0 0 (An [(k0.1,k0.2.1,k0.2.2.1,k0.2.2.2)])).1),.int .i64 ((AU true 0 0 0 (An [(k0.1,k0.2.1,k0.2.2.1,k0.2.2.2)])).2.1),.int .i64 ((AU true 0 0 0 (An [(k0.1,k0.2.1,k0.2.2.1,k0.2.2.2)])).2.2.1),.int .i64 ((AU true 0 0 0 (An [(k0.1,k0.2.1,k0.2.2.1,k0.2.2.2)])).2.2.2.1)]⟩),Ar 7 [5] (.int .i64 ((AU true 0 0 0 (An [(k0.1,k0.2.1,k0.2.2.1,k0.2.2.2)])).2.2.2.2))]) (W:=eY) (C:=fun u=>Below w111.heap.size w111 u) (Ext:=CQ) (Below.refl _ _).drew CQ.refl (fun _ _ _=>CQ.trans) ⟨?_,?_,?_,?_,?_,?_,?_,?_,trivial⟩ rfl ?_
                   ·refine ⟨fun _ _ _ _ _ h=>h,fun vals u hu hb=>?_⟩
                    exact AN.knownE [] trivial (AN.reads ⟨0,_,(4,0),[]⟩ (Au K85.G hu) (.agg ⟨[.bool true,.int .i64 0,.int .i64 0,.int .i64 0]⟩) ⟨hu,.refl _,rfl⟩)
                   ·refine ⟨fun _ _ _ _ _ h=>h,fun vals u hu hb=>?_⟩
                    exact AN.knownE [] trivial (AN.reads ⟨0,[],(0,0),[]⟩ (fun e he=>by cases he) (.pointer (some ⟨g6,0,none⟩)) ⟨hu,.refl _,rfl⟩)
                   ·refine ⟨fun _ _ _ _ _ h=>h,fun vals u hu hb=>?_⟩
                    obtain ⟨h1,_⟩:=hb
                    exact AN.knownE [(154,1,.pointer (some ⟨g6,0,none⟩))] ⟨(List.cons.inj h1).1,trivial⟩ (AN.reads ⟨0,_,(3,0),[]⟩ (Au K85.G hu) (.agg ⟨[.bool (k0.1),.int .i64 k0.2.1,.int .i64 k0.2.2.1,.int .i64 k0.2.2.2]⟩) ⟨hu,.refl _,rfl⟩)
                   ·refine ⟨fun _ _ _ _ he h=>h.keep he,fun vals u hu hb=>?_⟩
                    obtain ⟨h2,_⟩:=hb
                    refine AN.knownE [(155,2,.agg ⟨[.bool (k0.1),.int .i64 k0.2.1,.int .i64 k0.2.2.1,.int .i64 k0.2.2.2]⟩)] ⟨(List.cons.inj h2).1,trivial⟩ (AN.runsK ⟨u.heap.size,[],(0,0),[]⟩ ⟨u.heap.size + 1,[⟨u.heap.size,0,[.bool (k0.1),.int .i64 k0.2.1,.int .i64 k0.2.2.1,.int .i64 k0.2.2.2],26,true⟩],(0,0),[]⟩ (.value (.slice (some ⟨u.heap.size,0,none⟩) 1 1)) (.slice (some ⟨u.heap.size,0,none⟩) 1 1) (.inl rfl) (Bm u) rfl fun u2 hL hK=>?_)
                    have Bq:Below u.heap.size u u2:=hK.below (Nat.le_refl _) (fun k hk=>by cases hk)
                    exact ⟨hu.trans (Bq.mono hu.size),Bq,⟨_,rfl,D2 (rs:=[[.bool (k0.1),.int .i64 k0.2.1,.int .i64 k0.2.2.1,.int .i64 k0.2.2.2]]) (by simp) (hL.sat.good _ (List.mem_singleton.2 rfl))⟩⟩
                   ·refine ⟨fun _ _ _ _ _ h=>h,fun vals u hu hb=>?_⟩
                    obtain ⟨h3,_⟩:=hb
                    obtain ⟨gb3,hv3b,hr3⟩:=h3
                    refine AN.knownE [(156,3,.slice (some ⟨gb3,0,none⟩) 1 1)] ⟨(List.cons.inj hv3b).1,trivial⟩ (AN.call (f:=156) [.tmp 156] (args:=[.slice (some ⟨gb3,0,none⟩) 1 1]) (ats:=#[90]) rfl (Ci _ _) ((IY (some ⟨gb3,0,none⟩) [(k0.1,k0.2.1,k0.2.2.1,k0.2.2.2)] 1 u hr3 (by first | assumption | omega | (simp <;> omega))).mono fun en u2 hh=>?_))
                    obtain ⟨rfl,bb⟩:=hh
                    exact ⟨_,rfl,hu.trans (bb.mono hu.size),bb,rfl⟩
                   ·refine ⟨fun _ _ _ _ _ h=>h,fun vals u hu hb=>?_⟩
                    obtain ⟨h0,h4,_⟩:=hb
                    refine AN.knownE [(153,0,.agg ⟨[.bool true,.int .i64 0,.int .i64 0,.int .i64 0]⟩),(157,4,.int .i64 (An [(k0.1,k0.2.1,k0.2.2.1,k0.2.2.2)]))] ⟨(List.cons.inj h0).1,(List.cons.inj h4).1,trivial⟩ (AN.call (f:=152) [.tmp 153,.tmp 157] (args:=[.agg ⟨[.bool true,.int .i64 0,.int .i64 0,.int .i64 0]⟩,.int .i64 (An [(k0.1,k0.2.1,k0.2.2.1,k0.2.2.2)])]) (ats:=#[26,44]) rfl (Ci _ _) ((Cu true 0 0 0 (An [(k0.1,k0.2.1,k0.2.2.1,k0.2.2.2)]) u).mono fun en u2 hh=>?_))
                    obtain ⟨rfl,bb⟩:=hh
                    exact ⟨_,rfl,hu.trans (bb.mono hu.size),bb,rfl⟩
                   ·refine ⟨fun _ _ _ _ _ h=>h,fun vals u hu hb=>?_⟩
                    obtain ⟨h5,_⟩:=hb
                    exact AN.knownE [(158,5,BT (AU true 0 0 0 (An [(k0.1,k0.2.1,k0.2.2.1,k0.2.2.2)])))] ⟨(List.cons.inj h5).1,trivial⟩ (AN.reads ⟨0,[],(0,0),[]⟩ (fun e he=>by cases he) (.agg ⟨[.bool ((AU true 0 0 0 (An [(k0.1,k0.2.1,k0.2.2.1,k0.2.2.2)])).1),.int .i64 ((AU true 0 0 0 (An [(k0.1,k0.2.1,k0.2.2.1,k0.2.2.2)])).2.1),.int .i64 ((AU true 0 0 0 (An [(k0.1,k0.2.1,k0.2.2.1,k0.2.2.2)])).2.2.1),.int .i64 ((AU true 0 0 0 (An [(k0.1,k0.2.1,k0.2.2.1,k0.2.2.2)])).2.2.2.1)]⟩) ⟨hu,.refl _,rfl⟩)
                   ·refine ⟨fun _ _ _ _ _ h=>h,fun vals u hu hb=>?_⟩
                    obtain ⟨h5,_⟩:=hb
                    exact AN.knownE [(158,5,BT (AU true 0 0 0 (An [(k0.1,k0.2.1,k0.2.2.1,k0.2.2.2)])))] ⟨(List.cons.inj h5).1,trivial⟩ (AN.reads ⟨0,[],(0,0),[]⟩ (fun e he=>by cases he) (.int .i64 ((AU true 0 0 0 (An [(k0.1,k0.2.1,k0.2.2.1,k0.2.2.2)])).2.2.2.2)) ⟨hu,.refl _,rfl⟩)
                   intro vals w112 b112 _ hall
                   replace b112:Below w111.heap.size w111 w112:=b112
                   obtain ⟨x0,x1,x2,x3,x4,x5,x6,x7,_⟩:=hall
                   have K86:=K85.below b112
                   refine C0 [(4,.pointer (some ⟨g4,0,none⟩)),(159,vals 6),(160,vals 7)] fun E112=>?_
                   rw [show vals 6=.agg ⟨[.bool ((AU true 0 0 0 (An [(k0.1,k0.2.1,k0.2.2.1,k0.2.2.2)])).1),.int .i64 ((AU true 0 0 0 (An [(k0.1,k0.2.1,k0.2.2.1,k0.2.2.2)])).2.1),.int .i64 ((AU true 0 0 0 (An [(k0.1,k0.2.1,k0.2.2.1,k0.2.2.2)])).2.2.1),.int .i64 ((AU true 0 0 0 (An [(k0.1,k0.2.1,k0.2.2.1,k0.2.2.2)])).2.2.2.1)]⟩ from (List.cons.inj x6).1]
                   rw [show vals 7=.int .i64 ((AU true 0 0 0 (An [(k0.1,k0.2.1,k0.2.2.1,k0.2.2.2)])).2.2.2.2) from (List.cons.inj x7).1]
                   refine DW (i:=8) K86 (LT.getD 8 default) (2,0) (undef) fun w113 K87=>?_
                   refine DW (i:=9) K87 (LT.getD 9 default) (0,0) (.int .i64 ((AU true 0 0 0 (An [(k0.1,k0.2.1,k0.2.2.1,k0.2.2.2)])).2.2.2.2)) fun w114 K88=>?_
                   refine DV ⟨rfl,At.mid ?_⟩
                   refine AC ge K88 [] fun w115 K89=>?_
                   exact Aa K89 (2,0) (BT (AU true 0 0 0 (An [(k0.1,k0.2.1,k0.2.2.1,k0.2.2.2)]))) (hk _ _ ⟨by unfold Ch; rw [c2,c5,c8,c13,c20,c25,c39,c46,c53,c60,c65,c72,c77,c84,c89,c94,c103,c110] <;> rfl,K89.B⟩)
                  ·refine AC PR K84 [] fun w116 K90=>?_
                   refine AK (x.op == 16) (fun c117=>?_) (fun c117=>?_)
                   ·refine Ag 45 PQ K90 [] fun w118 K91=>?_
                    refine DY LS 11 ?_
                    refine Ce (md:=.any) (fuel:=2) (L:=[Ar 0 [] (.pointer (some ⟨g6,0,none⟩)),Ar 1 [0] (.agg ⟨[.bool (k0.1),.int .i64 k0.2.1,.int .i64 k0.2.2.1,.int .i64 k0.2.2.2]⟩),Ar 2 [] (.pointer (some ⟨g6,0,none⟩)),Ar 3 [2] (.agg ⟨[.bool (k0.1),.int .i64 k0.2.1,.int .i64 k0.2.2.1,.int .i64 k0.2.2.2]⟩),⟨4,[3],[4],Hu 1 4 [[.bool (k0.1),.int .i64 k0.2.1,.int .i64 k0.2.2.1,.int .i64 k0.2.2.2]]⟩,Ar 5 [4] (.int .i64 (BZ [(k0.1,k0.2.1,k0.2.2.1,k0.2.2.2)])),Ar 6 [1,5] (BT (AU k0.1 k0.2.1 k0.2.2.1 k0.2.2.2 (BZ [(k0.1,k0.2.1,k0.2.2.1,k0.2.2.2)]))),Ar 7 [6] (.agg ⟨[.bool ((AU k0.1 k0.2.1 k0.2.2.1 k0.2.2.2 (BZ [(k0.1,k0.2.1,k0.2.2.1,k0.2.2.2)])).1),.int .i64 ((AU k0.1 k0.2.1 k0.2.2.1 k0.2.2.2 (BZ [(k0.1,k0.2.1,k0.2.2.1,k0.2.2.2)])).2.1),.int .i64 ((AU k0.1 k0.2.1 k0.2.2.1 k0.2.2.2 (BZ [(k0.1,k0.2.1,k0.2.2.1,k0.2.2.2)])).2.2.1),.int .i64 ((AU k0.1 k0.2.1 k0.2.2.1 k0.2.2.2 (BZ [(k0.1,k0.2.1,k0.2.2.1,k0.2.2.2)])).2.2.2.1)]⟩),Ar 8 [6] (.int .i64 ((AU k0.1 k0.2.1 k0.2.2.1 k0.2.2.2 (BZ [(k0.1,k0.2.1,k0.2.2.1,k0.2.2.2)])).2.2.2.2))]) (W:=eX) (C:=fun u=>Below w118.heap.size w118 u) (Ext:=CQ) (Below.refl _ _).drew CQ.refl (fun _ _ _=>CQ.trans) ⟨?_,?_,?_,?_,?_,?_,?_,?_,?_,trivial⟩ rfl ?_
                    ·refine ⟨fun _ _ _ _ _ h=>h,fun vals u hu hb=>?_⟩
                     exact AN.knownE [] trivial (AN.reads ⟨0,[],(0,0),[]⟩ (fun e he=>by cases he) (.pointer (some ⟨g6,0,none⟩)) ⟨hu,.refl _,rfl⟩)
                    ·refine ⟨fun _ _ _ _ _ h=>h,fun vals u hu hb=>?_⟩
                     obtain ⟨h0,_⟩:=hb
                     exact AN.knownE [(163,0,.pointer (some ⟨g6,0,none⟩))] ⟨(List.cons.inj h0).1,trivial⟩ (AN.reads ⟨0,_,(3,0),[]⟩ (Au K91.G hu) (.agg ⟨[.bool (k0.1),.int .i64 k0.2.1,.int .i64 k0.2.2.1,.int .i64 k0.2.2.2]⟩) ⟨hu,.refl _,rfl⟩)
                    ·refine ⟨fun _ _ _ _ _ h=>h,fun vals u hu hb=>?_⟩
                     exact AN.knownE [] trivial (AN.reads ⟨0,[],(0,0),[]⟩ (fun e he=>by cases he) (.pointer (some ⟨g6,0,none⟩)) ⟨hu,.refl _,rfl⟩)
                    ·refine ⟨fun _ _ _ _ _ h=>h,fun vals u hu hb=>?_⟩
                     obtain ⟨h2,_⟩:=hb
                     exact AN.knownE [(165,2,.pointer (some ⟨g6,0,none⟩))] ⟨(List.cons.inj h2).1,trivial⟩ (AN.reads ⟨0,_,(3,0),[]⟩ (Au K91.G hu) (.agg ⟨[.bool (k0.1),.int .i64 k0.2.1,.int .i64 k0.2.2.1,.int .i64 k0.2.2.2]⟩) ⟨hu,.refl _,rfl⟩)
                    ·refine ⟨fun _ _ _ _ he h=>h.keep he,fun vals u hu hb=>?_⟩
                     obtain ⟨h3,_⟩:=hb
                     refine AN.knownE [(166,3,.agg ⟨[.bool (k0.1),.int .i64 k0.2.1,.int .i64 k0.2.2.1,.int .i64 k0.2.2.2]⟩)] ⟨(List.cons.inj h3).1,trivial⟩ (AN.runsK ⟨u.heap.size,[],(0,0),[]⟩ ⟨u.heap.size + 1,[⟨u.heap.size,0,[.bool (k0.1),.int .i64 k0.2.1,.int .i64 k0.2.2.1,.int .i64 k0.2.2.2],26,true⟩],(0,0),[]⟩ (.value (.slice (some ⟨u.heap.size,0,none⟩) 1 1)) (.slice (some ⟨u.heap.size,0,none⟩) 1 1) (.inl rfl) (Bm u) rfl fun u2 hL hK=>?_)
                     have Bq:Below u.heap.size u u2:=hK.below (Nat.le_refl _) (fun k hk=>by cases hk)
                     exact ⟨hu.trans (Bq.mono hu.size),Bq,⟨_,rfl,D2 (rs:=[[.bool (k0.1),.int .i64 k0.2.1,.int .i64 k0.2.2.1,.int .i64 k0.2.2.2]]) (by simp) (hL.sat.good _ (List.mem_singleton.2 rfl))⟩⟩
                    ·refine ⟨fun _ _ _ _ _ h=>h,fun vals u hu hb=>?_⟩
                     obtain ⟨h4,_⟩:=hb
                     obtain ⟨gb4,hv4b,hr4⟩:=h4
                     refine AN.knownE [(167,4,.slice (some ⟨gb4,0,none⟩) 1 1)] ⟨(List.cons.inj hv4b).1,trivial⟩ (AN.call (f:=157) [.tmp 167] (args:=[.slice (some ⟨gb4,0,none⟩) 1 1]) (ats:=#[90]) rfl (Ci _ _) ((LC (some ⟨gb4,0,none⟩) [(k0.1,k0.2.1,k0.2.2.1,k0.2.2.2)] 1 u hr4 (by first | assumption | omega | (simp <;> omega))).mono fun en u2 hh=>?_))
                     obtain ⟨rfl,bb⟩:=hh
                     exact ⟨_,rfl,hu.trans (bb.mono hu.size),bb,rfl⟩
                    ·refine ⟨fun _ _ _ _ _ h=>h,fun vals u hu hb=>?_⟩
                     obtain ⟨h1,h5,_⟩:=hb
                     refine AN.knownE [(164,1,.agg ⟨[.bool (k0.1),.int .i64 k0.2.1,.int .i64 k0.2.2.1,.int .i64 k0.2.2.2]⟩),(168,5,.int .i64 (BZ [(k0.1,k0.2.1,k0.2.2.1,k0.2.2.2)]))] ⟨(List.cons.inj h1).1,(List.cons.inj h5).1,trivial⟩ (AN.call (f:=152) [.tmp 164,.tmp 168] (args:=[.agg ⟨[.bool (k0.1),.int .i64 k0.2.1,.int .i64 k0.2.2.1,.int .i64 k0.2.2.2]⟩,.int .i64 (BZ [(k0.1,k0.2.1,k0.2.2.1,k0.2.2.2)])]) (ats:=#[26,44]) rfl (Ci _ _) ((Cu k0.1 k0.2.1 k0.2.2.1 k0.2.2.2 (BZ [(k0.1,k0.2.1,k0.2.2.1,k0.2.2.2)]) u).mono fun en u2 hh=>?_))
                     obtain ⟨rfl,bb⟩:=hh
                     exact ⟨_,rfl,hu.trans (bb.mono hu.size),bb,rfl⟩
                    ·refine ⟨fun _ _ _ _ _ h=>h,fun vals u hu hb=>?_⟩
                     obtain ⟨h6,_⟩:=hb
                     exact AN.knownE [(169,6,BT (AU k0.1 k0.2.1 k0.2.2.1 k0.2.2.2 (BZ [(k0.1,k0.2.1,k0.2.2.1,k0.2.2.2)])))] ⟨(List.cons.inj h6).1,trivial⟩ (AN.reads ⟨0,[],(0,0),[]⟩ (fun e he=>by cases he) (.agg ⟨[.bool ((AU k0.1 k0.2.1 k0.2.2.1 k0.2.2.2 (BZ [(k0.1,k0.2.1,k0.2.2.1,k0.2.2.2)])).1),.int .i64 ((AU k0.1 k0.2.1 k0.2.2.1 k0.2.2.2 (BZ [(k0.1,k0.2.1,k0.2.2.1,k0.2.2.2)])).2.1),.int .i64 ((AU k0.1 k0.2.1 k0.2.2.1 k0.2.2.2 (BZ [(k0.1,k0.2.1,k0.2.2.1,k0.2.2.2)])).2.2.1),.int .i64 ((AU k0.1 k0.2.1 k0.2.2.1 k0.2.2.2 (BZ [(k0.1,k0.2.1,k0.2.2.1,k0.2.2.2)])).2.2.2.1)]⟩) ⟨hu,.refl _,rfl⟩)
                    ·refine ⟨fun _ _ _ _ _ h=>h,fun vals u hu hb=>?_⟩
                     obtain ⟨h6,_⟩:=hb
                     exact AN.knownE [(169,6,BT (AU k0.1 k0.2.1 k0.2.2.1 k0.2.2.2 (BZ [(k0.1,k0.2.1,k0.2.2.1,k0.2.2.2)])))] ⟨(List.cons.inj h6).1,trivial⟩ (AN.reads ⟨0,[],(0,0),[]⟩ (fun e he=>by cases he) (.int .i64 ((AU k0.1 k0.2.1 k0.2.2.1 k0.2.2.2 (BZ [(k0.1,k0.2.1,k0.2.2.1,k0.2.2.2)])).2.2.2.2)) ⟨hu,.refl _,rfl⟩)
                    intro vals w119 b119 _ hall
                    replace b119:Below w118.heap.size w118 w119:=b119
                    obtain ⟨x0,x1,x2,x3,x4,x5,x6,x7,x8,_⟩:=hall
                    have K92:=K91.below b119
                    refine C0 [(4,.pointer (some ⟨g4,0,none⟩)),(170,vals 7),(171,vals 8)] fun E119=>?_
                    rw [show vals 7=.agg ⟨[.bool ((AU k0.1 k0.2.1 k0.2.2.1 k0.2.2.2 (BZ [(k0.1,k0.2.1,k0.2.2.1,k0.2.2.2)])).1),.int .i64 ((AU k0.1 k0.2.1 k0.2.2.1 k0.2.2.2 (BZ [(k0.1,k0.2.1,k0.2.2.1,k0.2.2.2)])).2.1),.int .i64 ((AU k0.1 k0.2.1 k0.2.2.1 k0.2.2.2 (BZ [(k0.1,k0.2.1,k0.2.2.1,k0.2.2.2)])).2.2.1),.int .i64 ((AU k0.1 k0.2.1 k0.2.2.1 k0.2.2.2 (BZ [(k0.1,k0.2.1,k0.2.2.1,k0.2.2.2)])).2.2.2.1)]⟩ from (List.cons.inj x7).1]
                    rw [show vals 8=.int .i64 ((AU k0.1 k0.2.1 k0.2.2.1 k0.2.2.2 (BZ [(k0.1,k0.2.1,k0.2.2.1,k0.2.2.2)])).2.2.2.2) from (List.cons.inj x8).1]
                    refine DW (i:=9) K92 (LS.getD 9 default) (2,0) (undef) fun w120 K93=>?_
                    refine DW (i:=10) K93 (LS.getD 10 default) (0,0) (.int .i64 ((AU k0.1 k0.2.1 k0.2.2.1 k0.2.2.2 (BZ [(k0.1,k0.2.1,k0.2.2.1,k0.2.2.2)])).2.2.2.2)) fun w121 K94=>?_
                    refine DV ⟨rfl,At.mid ?_⟩
                    refine AC gc K94 [] fun w122 K95=>?_
                    exact Aa K95 (2,0) (BT (AU k0.1 k0.2.1 k0.2.2.1 k0.2.2.2 (BZ [(k0.1,k0.2.1,k0.2.2.1,k0.2.2.2)]))) (hk _ _ ⟨by unfold Ch; rw [c2,c5,c8,c13,c20,c25,c39,c46,c53,c60,c65,c72,c77,c84,c89,c94,c103,c110,c117] <;> rfl,K95.B⟩)
                   ·refine AC PP K90 [] fun w123 K96=>?_
                    refine AK (x.op == 18) (fun c124=>?_) (fun c124=>?_)
                    ·refine BF V5 K96 [(3,0)] fun w125 K97=>?_
                     refine Ak K97 (IY (some ⟨w123.heap.size,0,none⟩) [(k0.1,k0.2.1,k0.2.2.1,k0.2.2.2)] 1 w125 (D2 (t:=26) (rs:=[[.bool (k0.1),.int .i64 k0.2.1,.int .i64 k0.2.2.1,.int .i64 k0.2.2.2]]) (by simp) (K97.ent 5 (by kernel_rfl))) (by first | assumption | omega | (simp <;> omega))) fun w126 K98=>?_
                     refine AC PO K98 [] fun w127 K99=>?_
                     refine AK (An [(k0.1,k0.2.1,k0.2.2.1,k0.2.2.2)] == 0) (fun c128=>?_) (fun c128=>?_)
                     ·refine AC V4 K99 [(3,4),(3,8)] fun w129 K100=>?_
                      refine Ak K100 (OE k1.1 k1.2.1 k1.2.2.1 k1.2.2.2 k2.1 k2.2.1 k2.2.2.1 k2.2.2.2 w129) fun w130 K101=>?_
                      refine AC V3 K101 [(3,4)] fun w131 K102=>?_
                      refine Ak K102 (Cu k1.1 k1.2.1 k1.2.2.1 k1.2.2.2 (Ey k1.1 k1.2.1 k1.2.2.1 k1.2.2.2 k2.1 k2.2.1 k2.2.2.1 k2.2.2.2) w131) fun w132 K103=>?_
                      refine BF gb K103 [(2,0)] fun w133 K104=>?_
                      exact Aa K104 (2,0) (BT (AU k1.1 k1.2.1 k1.2.2.1 k1.2.2.2 (Ey k1.1 k1.2.1 k1.2.2.1 k1.2.2.2 k2.1 k2.2.1 k2.2.2.1 k2.2.2.2))) (hk _ _ ⟨by unfold Ch; rw [c2,c5,c8,c13,c20,c25,c39,c46,c53,c60,c65,c72,c77,c84,c89,c94,c103,c110,c117,c124,c128] <;> rfl,K104.B⟩)
                     ·refine AC V2 K99 [(3,4)] fun w134 K105=>?_
                      refine Ak K105 (Cu k1.1 k1.2.1 k1.2.2.1 k1.2.2.2 (An [(k0.1,k0.2.1,k0.2.2.1,k0.2.2.2)]) w134) fun w135 K106=>?_
                      refine BF ga K106 [(2,0)] fun w136 K107=>?_
                      exact Aa K107 (2,0) (BT (AU k1.1 k1.2.1 k1.2.2.1 k1.2.2.2 (An [(k0.1,k0.2.1,k0.2.2.1,k0.2.2.2)]))) (hk _ _ ⟨by unfold Ch; rw [c2,c5,c8,c13,c20,c25,c39,c46,c53,c60,c65,c72,c77,c84,c89,c94,c103,c110,c117,c124,c128] <;> rfl,K107.B⟩)
                    ·refine AC PN K96 [] fun w137 K108=>?_
                     refine AK (x.op == 19) (fun c138=>?_) (fun c138=>?_)
                     ·refine Ag 52 V1 K108 [] fun w139 K109=>?_
                      refine HH K109 [0,1,2,3,4,5,6,7,8,9] [(1,3,0),(3,3,0),(5,1,3)] [⟨6,[(196,.agg ⟨[.bool (k0.1),.int .i64 k0.2.1,.int .i64 k0.2.2.1,.int .i64 k0.2.2.2]⟩),(198,.agg ⟨[.int .i64 x.mu,.int .i64 x.hu,.int .i64 x.du]⟩)],.int .i64 (DC k0.1 k0.2.1 k0.2.2.1 k0.2.2.2 x.mu x.hu x.du),true⟩,⟨7,[(194,.agg ⟨[.bool (k0.1),.int .i64 k0.2.1,.int .i64 k0.2.2.1,.int .i64 k0.2.2.2]⟩),(199,.int .i64 (DC k0.1 k0.2.1 k0.2.2.1 k0.2.2.2 x.mu x.hu x.du))],BT (AU k0.1 k0.2.1 k0.2.2.1 k0.2.2.2 (DC k0.1 k0.2.1 k0.2.2.1 k0.2.2.2 x.mu x.hu x.du)),true⟩] [(10,2,0),(11,0,0)] K109.G (fun sp hsp=>?_) fun z140 w140 K110=>?_
                      ·simp only [List.mem_cons,List.not_mem_nil,or_false] at hsp
                       rcases hsp with rfl | rfl
                       ·exact AR 151 [.tmp 196,.tmp 198] [.agg ⟨[.bool (k0.1),.int .i64 k0.2.1,.int .i64 k0.2.2.1,.int .i64 k0.2.2.2]⟩,.agg ⟨[.int .i64 x.mu,.int .i64 x.hu,.int .i64 x.du]⟩] (fun _=>by kernel_rfl) fun hc u hu=>AP hu (H1 k0.1 k0.2.1 k0.2.2.1 k0.2.2.2 x.mu x.hu x.du u)
                       ·exact AR 152 [.tmp 194,.tmp 199] [.agg ⟨[.bool (k0.1),.int .i64 k0.2.1,.int .i64 k0.2.2.1,.int .i64 k0.2.2.2]⟩,.int .i64 (DC k0.1 k0.2.1 k0.2.2.1 k0.2.2.2 x.mu x.hu x.du)] (fun _=>by kernel_rfl) fun hc u hu=>AP hu (Cu k0.1 k0.2.1 k0.2.2.1 k0.2.2.2 (DC k0.1 k0.2.1 k0.2.2.1 k0.2.2.2 x.mu x.hu x.du) u)
                      refine AC gZ K110 [] fun w141 K111=>?_
                      exact Aa K111 (2,0) (BT (AU k0.1 k0.2.1 k0.2.2.1 k0.2.2.2 (DC k0.1 k0.2.1 k0.2.2.1 k0.2.2.2 x.mu x.hu x.du))) (hk _ _ ⟨by unfold Ch; rw [c2,c5,c8,c13,c20,c25,c39,c46,c53,c60,c65,c72,c77,c84,c89,c94,c103,c110,c117,c124,c138] <;> rfl,K111.B⟩)
                     ·refine AC gY K108 [(2,0)] fun w142 K112=>?_
                      exact Aa K112 (2,0) (.tuple #[.agg ⟨[.bool false,.int .i64 0,.int .i64 0,.int .i64 0]⟩,.int .i64 1]) (hk _ _ ⟨by unfold Ch; rw [c2,c5,c8,c13,c20,c25,c39,c46,c53,c60,c65,c72,c77,c84,c89,c94,c103,c110,c117,c124,c138] <;> rfl,K112.B⟩)
def PH (ns:List (Df)) (ss:List (Df)) (ps:List (Df)) (x:Ex):Bool×Int×Int×Int×Int:=Ch ns ss ps x (false,0,0,0) (false,0,0,0) (false,0,0,0)
def el (r:Bool×Int×Int×Int×Int):Value:=.tuple #[.agg ⟨[.bool (r.1),.int .i64 (r.2.1),.int .i64 (r.2.2.1),.int .i64 (r.2.2.2.1)]⟩,.int .i64 (r.2.2.2.2)]
noncomputable def Nb:Code:=Tryz.f125.body.getD .skip
def kw:List Item:=(CE (Ig 10) 400 [false] ([.code Nb])).2
theorem PG (p0aA:Option Addr) (ns:List (Df)) (p0ac:Nat) (p0bA:Option Addr) (ss:List (Df)) (p0bc:Nat) (p0cA:Option Addr) (ps:List (Df)) (p0cc:Nat) (x:Ex) (p1A0:Option Addr) (p1c0:Nat) (w:World) (h_ns:rowsDf w p0aA ns) (hl_ns:ns.length≤4294967296) (h_ss:rowsDf w p0bA ss) (hl_ss:ss.length≤4294967296) (h_ps:rowsDf w p0cA ps) (hl_ps:ps.length≤4294967296) (h_x0:rowsEx w p1A0 []) (hks:x.ks.length=0):Calls Tryz.prog 125 ([.agg ⟨[.slice p0aA ns.length p0ac,.slice p0bA ss.length p0bc,.slice p0cA ps.length p0cc]⟩,.agg ⟨[.int .i64 x.op,.int .i64 x.num,.int .i64 x.den,.int .i64 x.mu,.int .i64 x.hu,.int .i64 x.du,.string ⟨⟨x.nm⟩⟩,.int .i64 x.cnt,.int .i64 x.md,.slice p1A0 0 p1c0]⟩]:List Value).toArray w fun e w'=>e=.returned (el (PH ns ss ps x))∧Below w.heap.size w w':=by
 refine Ab (fn:=Tryz.f125) (c:=Nb) (n:=204) ?_
 have K1:=Wk.start w
 refine Bh (CE (Ig 10) 400 [false] ([.code Nb])).1 [(4,2),(15,1)] kw K1 fun w1 K2=>?_
 have K3:Wk w w1 [⟨w.heap.size,0,[.slice p0aA ns.length p0ac,.slice p0bA ss.length p0bc,.slice p0cA ps.length p0cc],174,true⟩,⟨w.heap.size + 1,0,[.int .i64 x.op,.int .i64 x.num,.int .i64 x.den,.int .i64 x.mu,.int .i64 x.hu,.int .i64 x.du,.string ⟨⟨x.nm⟩⟩,.int .i64 x.cnt,.int .i64 x.md,.slice p1A0 0 p1c0],32,true⟩,⟨w.heap.size + 2,0,[.bool false,.int .i64 0,.int .i64 0,.int .i64 0],26,true⟩,⟨w.heap.size + 3,0,[.bool false,.int .i64 0,.int .i64 0,.int .i64 0,.bool false,.int .i64 0,.int .i64 0,.int .i64 0,.bool false,.int .i64 0,.int .i64 0,.int .i64 0],188,true⟩] [] []:=K2.pk [0,1,2,3] []
 refine Ax [(2,.pointer (some ⟨w.heap.size,0,none⟩)),(3,.pointer (some ⟨w.heap.size + 1,0,none⟩)),(4,.pointer (some ⟨w.heap.size + 2,0,none⟩)),(6,.pointer (some ⟨w.heap.size + 3,0,none⟩))] fun E2=>?_
 refine Kh (todo':=NH) (by kernel_rfl) ?_
 exact Hb ns ss ps x (false,0,0,0) (false,0,0,0) (false,0,0,0) p0aA p0bA p0cA p1A0 p0ac p0bc p0cc 0 p1c0 w.heap.size (w.heap.size + 1) (w.heap.size + 2) (w.heap.size + 3) E2 w w1 h_ns hl_ns h_ss hl_ss h_ps hl_ps K3 (fun _ _ h=>⟨h.1.trans (by unfold PH; rfl),h.2⟩)
def Lx (r0:HI) (ns:List (Df)) (ss:List (Df)) (ps:List (Df)) (x:Ex):Bool×Int×Int×Int×Int:=cond (!((r0).2.2.2.2 == 0)) ((false,0,0,0,(r0).2.2.2.2)) (Ch ns ss ps x (r0.1,r0.2.1,r0.2.2.1,r0.2.2.2.1) (false,0,0,0) (false,0,0,0))
def ek (r:Bool×Int×Int×Int×Int):Value:=.tuple #[.agg ⟨[.bool (r.1),.int .i64 (r.2.1),.int .i64 (r.2.2.1),.int .i64 (r.2.2.2.1)]⟩,.int .i64 (r.2.2.2.2)]
noncomputable def Na:Code:=Tryz.f125.body.getD .skip
def TP:List Item:=(CE (FV (FK 30)) 400 [true] ([.code Na])).2
def TO:List Item:=(CE (fun _=>false) 400 [] (AF (AF TP))).2
def L2:List Item:=(CE (fun _=>false) 400 [] (AF TO)).2
def ku:List Item:=(CE (fun _=>false) 400 [] (AG L2)).2
def kr:List Item:=(CE (Ig 10) 400 [false] (AL L2)).2
theorem PF (r0:HI) (p0aA:Option Addr) (ns:List (Df)) (p0ac:Nat) (p0bA:Option Addr) (ss:List (Df)) (p0bc:Nat) (p0cA:Option Addr) (ps:List (Df)) (p0cc:Nat) (x:Ex) (p1A0:Option Addr) (k0:Ex) (p1c0:Nat) (w:World) (h_ns:rowsDf w p0aA ns) (hl_ns:ns.length≤4294967296) (h_ss:rowsDf w p0bA ss) (hl_ss:ss.length≤4294967296) (h_ps:rowsDf w p0cA ps) (hl_ps:ps.length≤4294967296) (h_x0:rowsEx w p1A0 [k0]) (hks:x.ks.length=1) (IH0:∀ u,Below w.heap.size w u→∀ (A:Option Addr) (c:Nat),rowsEx u A k0.ks→Calls Tryz.prog 125 ([.agg ⟨[.slice p0aA ns.length p0ac,.slice p0bA ss.length p0bc,.slice p0cA ps.length p0cc]⟩,.agg ⟨Bo k0 A c⟩]:List Value).toArray u fun e w'=>e=.returned (Ha r0)∧Below u.heap.size u w'):Calls Tryz.prog 125 ([.agg ⟨[.slice p0aA ns.length p0ac,.slice p0bA ss.length p0bc,.slice p0cA ps.length p0cc]⟩,.agg ⟨[.int .i64 x.op,.int .i64 x.num,.int .i64 x.den,.int .i64 x.mu,.int .i64 x.hu,.int .i64 x.du,.string ⟨⟨x.nm⟩⟩,.int .i64 x.cnt,.int .i64 x.md,.slice p1A0 1 p1c0]⟩]:List Value).toArray w fun e w'=>e=.returned (ek (Lx r0 ns ss ps x))∧Below w.heap.size w w':=by
 refine Ab (fn:=Tryz.f125) (c:=Na) (n:=204) ?_
 have K1:=Wk.start w
 obtain ⟨gk,offk,rfl,hgk,hallk⟩:=h_x0.all (by simp)
 obtain ⟨k0A,k0c,hrowk0,h_k0⟩:=hallk 0 k0 rfl
 refine Bh (CE (FV (FK 30)) 400 [true] ([.code Na])).1 [(15,1)] TP K1 fun w1 K2=>?_
 refine BB (g:=gk) (off:=offk) (cap:=p1c0) (sz:=10) (k:=0) (len:=1) (some 21) (by decide) Tryz.underlying30 ?_
 refine Bc 32 gk (offk + 0 * 10) [.int .i64 k0.op,.int .i64 k0.num,.int .i64 k0.den,.int .i64 k0.mu,.int .i64 k0.hu,.int .i64 k0.du,.string ⟨⟨k0.nm⟩⟩,.int .i64 k0.cnt,.int .i64 k0.md,.slice k0A k0.ks.length k0c] (some 22) (Af hrowk0 hgk K2.B) ?_
 refine Bh (CE (fun _=>false) 400 [] (AF (AF TP))).1 [(2,0),(8,4)] TO K2 fun w2 K3=>?_
 refine Ak K3 (args:=[.agg ⟨[.slice p0aA ns.length p0ac,.slice p0bA ss.length p0bc,.slice p0cA ps.length p0cc]⟩,.agg ⟨[.int .i64 k0.op,.int .i64 k0.num,.int .i64 k0.den,.int .i64 k0.mu,.int .i64 k0.hu,.int .i64 k0.du,.string ⟨⟨k0.nm⟩⟩,.int .i64 k0.cnt,.int .i64 k0.md,.slice k0A k0.ks.length k0c]⟩]) (IH0 w2 K3.B _ _ (h_k0.below K3.B)) fun w3 K4=>?_
 refine Bh (CE (fun _=>false) 400 [] (AF TO)).1 [(9,5)] L2 K4 fun w4 K5=>?_
 refine AK (!((r0).2.2.2.2 == 0)) (fun c5=>?_) (fun c5=>?_)
 ·refine Bh (CE (fun _=>false) 400 [] (AG L2)).1 [(4,2)] ku K5 fun w6 K6=>?_
  exact AM K6 (2,0) (.tuple #[.agg ⟨[.bool false,.int .i64 0,.int .i64 0,.int .i64 0]⟩,.int .i64 ((r0).2.2.2.2)]) (by unfold Lx; rw [c5] <;> rfl)
 ·refine Bh (CE (Ig 10) 400 [false] (AL L2)).1 [(9,5),(35,3)] kr K5 fun w7 K7=>?_
  have K8:Wk w w7 [⟨w.heap.size,0,[.slice p0aA ns.length p0ac,.slice p0bA ss.length p0bc,.slice p0cA ps.length p0cc],174,true⟩,⟨w.heap.size + 1,0,[.int .i64 x.op,.int .i64 x.num,.int .i64 x.den,.int .i64 x.mu,.int .i64 x.hu,.int .i64 x.du,.string ⟨⟨x.nm⟩⟩,.int .i64 x.cnt,.int .i64 x.md,.slice (some ⟨gk,offk,none⟩) 1 p1c0],32,true⟩,⟨w.heap.size + 2,0,[.bool false,.int .i64 0,.int .i64 0,.int .i64 0],26,true⟩,⟨w.heap.size + 3,0,[.bool ((r0).1),.int .i64 ((r0).2.1),.int .i64 ((r0).2.2.1),.int .i64 ((r0).2.2.2.1),.bool false,.int .i64 0,.int .i64 0,.int .i64 0,.bool false,.int .i64 0,.int .i64 0,.int .i64 0],188,true⟩] [] []:=K7.pk [0,1,2,3] []
  refine Ax [(2,.pointer (some ⟨w.heap.size,0,none⟩)),(3,.pointer (some ⟨w.heap.size + 1,0,none⟩)),(4,.pointer (some ⟨w.heap.size + 2,0,none⟩)),(6,.pointer (some ⟨w.heap.size + 3,0,none⟩))] fun E8=>?_
  refine Kh (todo':=NH) (by kernel_rfl) ?_
  exact Hb ns ss ps x (r0.1,r0.2.1,r0.2.2.1,r0.2.2.2.1) (false,0,0,0) (false,0,0,0) p0aA p0bA p0cA (some ⟨gk,offk,none⟩) p0ac p0bc p0cc 1 p1c0 w.heap.size (w.heap.size + 1) (w.heap.size + 2) (w.heap.size + 3) E8 w w7 h_ns hl_ns h_ss hl_ss h_ps hl_ps K8 (fun _ _ h=>⟨h.1.trans (by unfold Lx; rw [c5] <;> rfl),h.2⟩)
def Jr (r0:HI) (r1:HI) (ns:List (Df)) (ss:List (Df)) (ps:List (Df)) (x:Ex):Bool×Int×Int×Int×Int:=cond (!((r0).2.2.2.2 == 0)) ((false,0,0,0,(r0).2.2.2.2)) (cond (!((r1).2.2.2.2 == 0)) ((false,0,0,0,(r1).2.2.2.2)) (Ch ns ss ps x (r0.1,r0.2.1,r0.2.2.1,r0.2.2.2.1) (r1.1,r1.2.1,r1.2.2.1,r1.2.2.2.1) (false,0,0,0)))
def ej (r:Bool×Int×Int×Int×Int):Value:=.tuple #[.agg ⟨[.bool (r.1),.int .i64 (r.2.1),.int .i64 (r.2.2.1),.int .i64 (r.2.2.2.1)]⟩,.int .i64 (r.2.2.2.2)]
noncomputable def NZ:Code:=Tryz.f125.body.getD .skip
def TN:List Item:=(CE (FV (FK 30)) 400 [true] ([.code NZ])).2
def TM:List Item:=(CE (fun _=>false) 400 [] (AF (AF TN))).2
def L1:List Item:=(CE (fun _=>false) 400 [] (AF TM)).2
def kq:List Item:=(CE (fun _=>false) 400 [] (AG L1)).2
def TL:List Item:=(CE (FV (FK 30)) 400 [true] (AL L1)).2
def TK:List Item:=(CE (fun _=>false) 400 [] (AF (AF TL))).2
def L0:List Item:=(CE (fun _=>false) 400 [] (AF TK)).2
def kp:List Item:=(CE (fun _=>false) 400 [] (AG L0)).2
def ko:List Item:=(CE (Ig 10) 400 [false] (AL L0)).2
theorem PE (r0:HI) (r1:HI) (p0aA:Option Addr) (ns:List (Df)) (p0ac:Nat) (p0bA:Option Addr) (ss:List (Df)) (p0bc:Nat) (p0cA:Option Addr) (ps:List (Df)) (p0cc:Nat) (x:Ex) (p1A0:Option Addr) (k0:Ex) (k1:Ex) (p1c0:Nat) (w:World) (h_ns:rowsDf w p0aA ns) (hl_ns:ns.length≤4294967296) (h_ss:rowsDf w p0bA ss) (hl_ss:ss.length≤4294967296) (h_ps:rowsDf w p0cA ps) (hl_ps:ps.length≤4294967296) (h_x0:rowsEx w p1A0 [k0,k1]) (hks:x.ks.length=2) (IH0:∀ u,Below w.heap.size w u→∀ (A:Option Addr) (c:Nat),rowsEx u A k0.ks→Calls Tryz.prog 125 ([.agg ⟨[.slice p0aA ns.length p0ac,.slice p0bA ss.length p0bc,.slice p0cA ps.length p0cc]⟩,.agg ⟨Bo k0 A c⟩]:List Value).toArray u fun e w'=>e=.returned (Ha r0)∧Below u.heap.size u w') (IH1:∀ u,Below w.heap.size w u→∀ (A:Option Addr) (c:Nat),rowsEx u A k1.ks→Calls Tryz.prog 125 ([.agg ⟨[.slice p0aA ns.length p0ac,.slice p0bA ss.length p0bc,.slice p0cA ps.length p0cc]⟩,.agg ⟨Bo k1 A c⟩]:List Value).toArray u fun e w'=>e=.returned (Ha r1)∧Below u.heap.size u w'):Calls Tryz.prog 125 ([.agg ⟨[.slice p0aA ns.length p0ac,.slice p0bA ss.length p0bc,.slice p0cA ps.length p0cc]⟩,.agg ⟨[.int .i64 x.op,.int .i64 x.num,.int .i64 x.den,.int .i64 x.mu,.int .i64 x.hu,.int .i64 x.du,.string ⟨⟨x.nm⟩⟩,.int .i64 x.cnt,.int .i64 x.md,.slice p1A0 2 p1c0]⟩]:List Value).toArray w fun e w'=>e=.returned (ej (Jr r0 r1 ns ss ps x))∧Below w.heap.size w w':=by
 refine Ab (fn:=Tryz.f125) (c:=NZ) (n:=204) ?_
 have K1:=Wk.start w
 obtain ⟨gk,offk,rfl,hgk,hallk⟩:=h_x0.all (by simp)
 obtain ⟨k0A,k0c,hrowk0,h_k0⟩:=hallk 0 k0 rfl
 refine Bh (CE (FV (FK 30)) 400 [true] ([.code NZ])).1 [(15,1)] TN K1 fun w1 K2=>?_
 refine BB (g:=gk) (off:=offk) (cap:=p1c0) (sz:=10) (k:=0) (len:=2) (some 21) (by decide) Tryz.underlying30 ?_
 refine Bc 32 gk (offk + 0 * 10) [.int .i64 k0.op,.int .i64 k0.num,.int .i64 k0.den,.int .i64 k0.mu,.int .i64 k0.hu,.int .i64 k0.du,.string ⟨⟨k0.nm⟩⟩,.int .i64 k0.cnt,.int .i64 k0.md,.slice k0A k0.ks.length k0c] (some 22) (Af hrowk0 hgk K2.B) ?_
 refine Bh (CE (fun _=>false) 400 [] (AF (AF TN))).1 [(2,0),(8,4)] TM K2 fun w2 K3=>?_
 refine Ak K3 (args:=[.agg ⟨[.slice p0aA ns.length p0ac,.slice p0bA ss.length p0bc,.slice p0cA ps.length p0cc]⟩,.agg ⟨[.int .i64 k0.op,.int .i64 k0.num,.int .i64 k0.den,.int .i64 k0.mu,.int .i64 k0.hu,.int .i64 k0.du,.string ⟨⟨k0.nm⟩⟩,.int .i64 k0.cnt,.int .i64 k0.md,.slice k0A k0.ks.length k0c]⟩]) (IH0 w2 K3.B _ _ (h_k0.below K3.B)) fun w3 K4=>?_
 refine Bh (CE (fun _=>false) 400 [] (AF TM)).1 [(9,5)] L1 K4 fun w4 K5=>?_
 refine AK (!((r0).2.2.2.2 == 0)) (fun c5=>?_) (fun c5=>?_)
 ·refine Bh (CE (fun _=>false) 400 [] (AG L1)).1 [(4,2)] kq K5 fun w6 K6=>?_
  exact AM K6 (2,0) (.tuple #[.agg ⟨[.bool false,.int .i64 0,.int .i64 0,.int .i64 0]⟩,.int .i64 ((r0).2.2.2.2)]) (by unfold Jr; rw [c5] <;> rfl)
 ·obtain ⟨k1A,k1c,hrowk1,h_k1⟩:=hallk 1 k1 rfl
  refine Bh (CE (FV (FK 30)) 400 [true] (AL L1)).1 [(9,5),(35,3)] TL K5 fun w7 K7=>?_
  refine BB (g:=gk) (off:=offk) (cap:=p1c0) (sz:=10) (k:=1) (len:=2) (some 21) (by decide) Tryz.underlying30 ?_
  refine Bc 32 gk (offk + 1 * 10) [.int .i64 k1.op,.int .i64 k1.num,.int .i64 k1.den,.int .i64 k1.mu,.int .i64 k1.hu,.int .i64 k1.du,.string ⟨⟨k1.nm⟩⟩,.int .i64 k1.cnt,.int .i64 k1.md,.slice k1A k1.ks.length k1c] (some 22) (Af hrowk1 hgk K7.B) ?_
  refine Bh (CE (fun _=>false) 400 [] (AF (AF TL))).1 [(2,0),(8,6)] TK K7 fun w8 K8=>?_
  refine Ak K8 (args:=[.agg ⟨[.slice p0aA ns.length p0ac,.slice p0bA ss.length p0bc,.slice p0cA ps.length p0cc]⟩,.agg ⟨[.int .i64 k1.op,.int .i64 k1.num,.int .i64 k1.den,.int .i64 k1.mu,.int .i64 k1.hu,.int .i64 k1.du,.string ⟨⟨k1.nm⟩⟩,.int .i64 k1.cnt,.int .i64 k1.md,.slice k1A k1.ks.length k1c]⟩]) (IH1 w8 K8.B _ _ (h_k1.below K8.B)) fun w9 K9=>?_
  refine Bh (CE (fun _=>false) 400 [] (AF TK)).1 [(9,7)] L0 K9 fun w10 K10=>?_
  refine AK (!((r1).2.2.2.2 == 0)) (fun c11=>?_) (fun c11=>?_)
  ·refine Bh (CE (fun _=>false) 400 [] (AG L0)).1 [(4,2)] kp K10 fun w12 K11=>?_
   exact AM K11 (2,0) (.tuple #[.agg ⟨[.bool false,.int .i64 0,.int .i64 0,.int .i64 0]⟩,.int .i64 ((r1).2.2.2.2)]) (by unfold Jr; rw [c5,c11] <;> rfl)
  ·refine Bh (CE (Ig 10) 400 [false] (AL L0)).1 [(9,7),(35,3)] ko K10 fun w13 K12=>?_
   have K13:Wk w w13 [⟨w.heap.size,0,[.slice p0aA ns.length p0ac,.slice p0bA ss.length p0bc,.slice p0cA ps.length p0cc],174,true⟩,⟨w.heap.size + 1,0,[.int .i64 x.op,.int .i64 x.num,.int .i64 x.den,.int .i64 x.mu,.int .i64 x.hu,.int .i64 x.du,.string ⟨⟨x.nm⟩⟩,.int .i64 x.cnt,.int .i64 x.md,.slice (some ⟨gk,offk,none⟩) 2 p1c0],32,true⟩,⟨w.heap.size + 2,0,[.bool false,.int .i64 0,.int .i64 0,.int .i64 0],26,true⟩,⟨w.heap.size + 3,0,[.bool ((r0).1),.int .i64 ((r0).2.1),.int .i64 ((r0).2.2.1),.int .i64 ((r0).2.2.2.1),.bool ((r1).1),.int .i64 ((r1).2.1),.int .i64 ((r1).2.2.1),.int .i64 ((r1).2.2.2.1),.bool false,.int .i64 0,.int .i64 0,.int .i64 0],188,true⟩] [] []:=K12.pk [0,1,2,3] []
   refine Ax [(2,.pointer (some ⟨w.heap.size,0,none⟩)),(3,.pointer (some ⟨w.heap.size + 1,0,none⟩)),(4,.pointer (some ⟨w.heap.size + 2,0,none⟩)),(6,.pointer (some ⟨w.heap.size + 3,0,none⟩))] fun E14=>?_
   refine Kh (todo':=NH) (by kernel_rfl) ?_
   exact Hb ns ss ps x (r0.1,r0.2.1,r0.2.2.1,r0.2.2.2.1) (r1.1,r1.2.1,r1.2.2.1,r1.2.2.2.1) (false,0,0,0) p0aA p0bA p0cA (some ⟨gk,offk,none⟩) p0ac p0bc p0cc 2 p1c0 w.heap.size (w.heap.size + 1) (w.heap.size + 2) (w.heap.size + 3) E14 w w13 h_ns hl_ns h_ss hl_ss h_ps hl_ps K13 (fun _ _ h=>⟨h.1.trans (by unfold Jr; rw [c5,c11] <;> rfl),h.2⟩)
def Ik (r0:HI) (r1:HI) (r2:HI) (ns:List (Df)) (ss:List (Df)) (ps:List (Df)) (x:Ex):Bool×Int×Int×Int×Int:=cond (!((r0).2.2.2.2 == 0)) ((false,0,0,0,(r0).2.2.2.2)) (cond (!((r1).2.2.2.2 == 0)) ((false,0,0,0,(r1).2.2.2.2)) (cond (!((r2).2.2.2.2 == 0)) ((false,0,0,0,(r2).2.2.2.2)) (Ch ns ss ps x (r0.1,r0.2.1,r0.2.2.1,r0.2.2.2.1) (r1.1,r1.2.1,r1.2.2.1,r1.2.2.2.1) (r2.1,r2.2.1,r2.2.2.1,r2.2.2.2.1))))
def ei (r:Bool×Int×Int×Int×Int):Value:=.tuple #[.agg ⟨[.bool (r.1),.int .i64 (r.2.1),.int .i64 (r.2.2.1),.int .i64 (r.2.2.2.1)]⟩,.int .i64 (r.2.2.2.2)]
noncomputable def NY:Code:=Tryz.f125.body.getD .skip
def TJ:List Item:=(CE (FV (FK 30)) 400 [true] ([.code NY])).2
def TI:List Item:=(CE (fun _=>false) 400 [] (AF (AF TJ))).2
def Lz:List Item:=(CE (fun _=>false) 400 [] (AF TI)).2
def km:List Item:=(CE (fun _=>false) 400 [] (AG Lz)).2
def TH:List Item:=(CE (FV (FK 30)) 400 [true] (AL Lz)).2
def TG:List Item:=(CE (fun _=>false) 400 [] (AF (AF TH))).2
def Ly:List Item:=(CE (fun _=>false) 400 [] (AF TG)).2
def kk:List Item:=(CE (fun _=>false) 400 [] (AG Ly)).2
def TF:List Item:=(CE (FV (FK 30)) 400 [true] (AL Ly)).2
def TE:List Item:=(CE (fun _=>false) 400 [] (AF (AF TF))).2
def Js:List Item:=(CE (fun _=>false) 400 [] (AF TE)).2
def g7:List Item:=(CE (fun _=>false) 400 [] (AG Js)).2
def g0:List Item:=(CE (Ig 10) 400 [false] (AL Js)).2
theorem PD (r0:HI) (r1:HI) (r2:HI) (p0aA:Option Addr) (ns:List (Df)) (p0ac:Nat) (p0bA:Option Addr) (ss:List (Df)) (p0bc:Nat) (p0cA:Option Addr) (ps:List (Df)) (p0cc:Nat) (x:Ex) (p1A0:Option Addr) (k0:Ex) (k1:Ex) (k2:Ex) (p1c0:Nat) (w:World) (h_ns:rowsDf w p0aA ns) (hl_ns:ns.length≤4294967296) (h_ss:rowsDf w p0bA ss) (hl_ss:ss.length≤4294967296) (h_ps:rowsDf w p0cA ps) (hl_ps:ps.length≤4294967296) (h_x0:rowsEx w p1A0 [k0,k1,k2]) (hks:x.ks.length=3) (IH0:∀ u,Below w.heap.size w u→∀ (A:Option Addr) (c:Nat),rowsEx u A k0.ks→Calls Tryz.prog 125 ([.agg ⟨[.slice p0aA ns.length p0ac,.slice p0bA ss.length p0bc,.slice p0cA ps.length p0cc]⟩,.agg ⟨Bo k0 A c⟩]:List Value).toArray u fun e w'=>e=.returned (Ha r0)∧Below u.heap.size u w') (IH1:∀ u,Below w.heap.size w u→∀ (A:Option Addr) (c:Nat),rowsEx u A k1.ks→Calls Tryz.prog 125 ([.agg ⟨[.slice p0aA ns.length p0ac,.slice p0bA ss.length p0bc,.slice p0cA ps.length p0cc]⟩,.agg ⟨Bo k1 A c⟩]:List Value).toArray u fun e w'=>e=.returned (Ha r1)∧Below u.heap.size u w') (IH2:∀ u,Below w.heap.size w u→∀ (A:Option Addr) (c:Nat),rowsEx u A k2.ks→Calls Tryz.prog 125 ([.agg ⟨[.slice p0aA ns.length p0ac,.slice p0bA ss.length p0bc,.slice p0cA ps.length p0cc]⟩,.agg ⟨Bo k2 A c⟩]:List Value).toArray u fun e w'=>e=.returned (Ha r2)∧Below u.heap.size u w'):Calls Tryz.prog 125 ([.agg ⟨[.slice p0aA ns.length p0ac,.slice p0bA ss.length p0bc,.slice p0cA ps.length p0cc]⟩,.agg ⟨[.int .i64 x.op,.int .i64 x.num,.int .i64 x.den,.int .i64 x.mu,.int .i64 x.hu,.int .i64 x.du,.string ⟨⟨x.nm⟩⟩,.int .i64 x.cnt,.int .i64 x.md,.slice p1A0 3 p1c0]⟩]:List Value).toArray w fun e w'=>e=.returned (ei (Ik r0 r1 r2 ns ss ps x))∧Below w.heap.size w w':=by
 refine Ab (fn:=Tryz.f125) (c:=NY) (n:=204) ?_
 have K1:=Wk.start w
 obtain ⟨gk,offk,rfl,hgk,hallk⟩:=h_x0.all (by simp)
 obtain ⟨k0A,k0c,hrowk0,h_k0⟩:=hallk 0 k0 rfl
 refine Bh (CE (FV (FK 30)) 400 [true] ([.code NY])).1 [(15,1)] TJ K1 fun w1 K2=>?_
 refine BB (g:=gk) (off:=offk) (cap:=p1c0) (sz:=10) (k:=0) (len:=3) (some 21) (by decide) Tryz.underlying30 ?_
 refine Bc 32 gk (offk + 0 * 10) [.int .i64 k0.op,.int .i64 k0.num,.int .i64 k0.den,.int .i64 k0.mu,.int .i64 k0.hu,.int .i64 k0.du,.string ⟨⟨k0.nm⟩⟩,.int .i64 k0.cnt,.int .i64 k0.md,.slice k0A k0.ks.length k0c] (some 22) (Af hrowk0 hgk K2.B) ?_
 refine Bh (CE (fun _=>false) 400 [] (AF (AF TJ))).1 [(2,0),(8,4)] TI K2 fun w2 K3=>?_
 refine Ak K3 (args:=[.agg ⟨[.slice p0aA ns.length p0ac,.slice p0bA ss.length p0bc,.slice p0cA ps.length p0cc]⟩,.agg ⟨[.int .i64 k0.op,.int .i64 k0.num,.int .i64 k0.den,.int .i64 k0.mu,.int .i64 k0.hu,.int .i64 k0.du,.string ⟨⟨k0.nm⟩⟩,.int .i64 k0.cnt,.int .i64 k0.md,.slice k0A k0.ks.length k0c]⟩]) (IH0 w2 K3.B _ _ (h_k0.below K3.B)) fun w3 K4=>?_
 refine Bh (CE (fun _=>false) 400 [] (AF TI)).1 [(9,5)] Lz K4 fun w4 K5=>?_
 refine AK (!((r0).2.2.2.2 == 0)) (fun c5=>?_) (fun c5=>?_)
 ·refine Bh (CE (fun _=>false) 400 [] (AG Lz)).1 [(4,2)] km K5 fun w6 K6=>?_
  exact AM K6 (2,0) (.tuple #[.agg ⟨[.bool false,.int .i64 0,.int .i64 0,.int .i64 0]⟩,.int .i64 ((r0).2.2.2.2)]) (by unfold Ik; rw [c5] <;> rfl)
 ·obtain ⟨k1A,k1c,hrowk1,h_k1⟩:=hallk 1 k1 rfl
  refine Bh (CE (FV (FK 30)) 400 [true] (AL Lz)).1 [(9,5),(35,3)] TH K5 fun w7 K7=>?_
  refine BB (g:=gk) (off:=offk) (cap:=p1c0) (sz:=10) (k:=1) (len:=3) (some 21) (by decide) Tryz.underlying30 ?_
  refine Bc 32 gk (offk + 1 * 10) [.int .i64 k1.op,.int .i64 k1.num,.int .i64 k1.den,.int .i64 k1.mu,.int .i64 k1.hu,.int .i64 k1.du,.string ⟨⟨k1.nm⟩⟩,.int .i64 k1.cnt,.int .i64 k1.md,.slice k1A k1.ks.length k1c] (some 22) (Af hrowk1 hgk K7.B) ?_
  refine Bh (CE (fun _=>false) 400 [] (AF (AF TH))).1 [(2,0),(8,6)] TG K7 fun w8 K8=>?_
  refine Ak K8 (args:=[.agg ⟨[.slice p0aA ns.length p0ac,.slice p0bA ss.length p0bc,.slice p0cA ps.length p0cc]⟩,.agg ⟨[.int .i64 k1.op,.int .i64 k1.num,.int .i64 k1.den,.int .i64 k1.mu,.int .i64 k1.hu,.int .i64 k1.du,.string ⟨⟨k1.nm⟩⟩,.int .i64 k1.cnt,.int .i64 k1.md,.slice k1A k1.ks.length k1c]⟩]) (IH1 w8 K8.B _ _ (h_k1.below K8.B)) fun w9 K9=>?_
  refine Bh (CE (fun _=>false) 400 [] (AF TG)).1 [(9,7)] Ly K9 fun w10 K10=>?_
  refine AK (!((r1).2.2.2.2 == 0)) (fun c11=>?_) (fun c11=>?_)
  ·refine Bh (CE (fun _=>false) 400 [] (AG Ly)).1 [(4,2)] kk K10 fun w12 K11=>?_
   exact AM K11 (2,0) (.tuple #[.agg ⟨[.bool false,.int .i64 0,.int .i64 0,.int .i64 0]⟩,.int .i64 ((r1).2.2.2.2)]) (by unfold Ik; rw [c5,c11] <;> rfl)
  ·obtain ⟨k2A,k2c,hrowk2,h_k2⟩:=hallk 2 k2 rfl
   refine Bh (CE (FV (FK 30)) 400 [true] (AL Ly)).1 [(9,7),(35,3)] TF K10 fun w13 K12=>?_
   refine BB (g:=gk) (off:=offk) (cap:=p1c0) (sz:=10) (k:=2) (len:=3) (some 21) (by decide) Tryz.underlying30 ?_
   refine Bc 32 gk (offk + 2 * 10) [.int .i64 k2.op,.int .i64 k2.num,.int .i64 k2.den,.int .i64 k2.mu,.int .i64 k2.hu,.int .i64 k2.du,.string ⟨⟨k2.nm⟩⟩,.int .i64 k2.cnt,.int .i64 k2.md,.slice k2A k2.ks.length k2c] (some 22) (Af hrowk2 hgk K12.B) ?_
   refine Bh (CE (fun _=>false) 400 [] (AF (AF TF))).1 [(2,0),(8,8)] TE K12 fun w14 K13=>?_
   refine Ak K13 (args:=[.agg ⟨[.slice p0aA ns.length p0ac,.slice p0bA ss.length p0bc,.slice p0cA ps.length p0cc]⟩,.agg ⟨[.int .i64 k2.op,.int .i64 k2.num,.int .i64 k2.den,.int .i64 k2.mu,.int .i64 k2.hu,.int .i64 k2.du,.string ⟨⟨k2.nm⟩⟩,.int .i64 k2.cnt,.int .i64 k2.md,.slice k2A k2.ks.length k2c]⟩]) (IH2 w14 K13.B _ _ (h_k2.below K13.B)) fun w15 K14=>?_
   refine Bh (CE (fun _=>false) 400 [] (AF TE)).1 [(9,9)] Js K14 fun w16 K15=>?_
   refine AK (!((r2).2.2.2.2 == 0)) (fun c17=>?_) (fun c17=>?_)
   ·refine Bh (CE (fun _=>false) 400 [] (AG Js)).1 [(4,2)] g7 K15 fun w18 K16=>?_
    exact AM K16 (2,0) (.tuple #[.agg ⟨[.bool false,.int .i64 0,.int .i64 0,.int .i64 0]⟩,.int .i64 ((r2).2.2.2.2)]) (by unfold Ik; rw [c5,c11,c17] <;> rfl)
   ·refine Bh (CE (Ig 10) 400 [false] (AL Js)).1 [(9,9),(35,3)] g0 K15 fun w19 K17=>?_
    have K18:Wk w w19 [⟨w.heap.size,0,[.slice p0aA ns.length p0ac,.slice p0bA ss.length p0bc,.slice p0cA ps.length p0cc],174,true⟩,⟨w.heap.size + 1,0,[.int .i64 x.op,.int .i64 x.num,.int .i64 x.den,.int .i64 x.mu,.int .i64 x.hu,.int .i64 x.du,.string ⟨⟨x.nm⟩⟩,.int .i64 x.cnt,.int .i64 x.md,.slice (some ⟨gk,offk,none⟩) 3 p1c0],32,true⟩,⟨w.heap.size + 2,0,[.bool false,.int .i64 0,.int .i64 0,.int .i64 0],26,true⟩,⟨w.heap.size + 3,0,[.bool ((r0).1),.int .i64 ((r0).2.1),.int .i64 ((r0).2.2.1),.int .i64 ((r0).2.2.2.1),.bool ((r1).1),.int .i64 ((r1).2.1),.int .i64 ((r1).2.2.1),.int .i64 ((r1).2.2.2.1),.bool ((r2).1),.int .i64 ((r2).2.1),.int .i64 ((r2).2.2.1),.int .i64 ((r2).2.2.2.1)],188,true⟩] [] []:=K17.pk [0,1,2,3] []
    refine Ax [(2,.pointer (some ⟨w.heap.size,0,none⟩)),(3,.pointer (some ⟨w.heap.size + 1,0,none⟩)),(4,.pointer (some ⟨w.heap.size + 2,0,none⟩)),(6,.pointer (some ⟨w.heap.size + 3,0,none⟩))] fun E20=>?_
    refine Kh (todo':=NH) (by kernel_rfl) ?_
    exact Hb ns ss ps x (r0.1,r0.2.1,r0.2.2.1,r0.2.2.2.1) (r1.1,r1.2.1,r1.2.2.1,r1.2.2.2.1) (r2.1,r2.2.1,r2.2.2.1,r2.2.2.2.1) p0aA p0bA p0cA (some ⟨gk,offk,none⟩) p0ac p0bc p0cc 3 p1c0 w.heap.size (w.heap.size + 1) (w.heap.size + 2) (w.heap.size + 3) E20 w w19 h_ns hl_ns h_ss hl_ss h_ps hl_ps K18 (fun _ _ h=>⟨h.1.trans (by unfold Ik; rw [c5,c11,c17] <;> rfl),h.2⟩)
end
end Go.Proofs.YtmcpjkcggfmcmaaGreatDoor

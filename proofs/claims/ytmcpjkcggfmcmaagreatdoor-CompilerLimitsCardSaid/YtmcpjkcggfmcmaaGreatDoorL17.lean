/-
  Part 17 of a proof: contracts of functions.
-/
import Derived.Test.YtmcpjkcggfmcmaaGreatDoorL16
set_option linter.all false
namespace Go.Proofs.YtmcpjkcggfmcmaaGreatDoor
noncomputable section
open Go.RowKit
set_option maxRecDepth 100000
set_option maxHeartbeats 1000000
attribute [local irreducible] BD Bb AF AG AL A4 Ai AO BO CV Di CC Bp At Fr
def AX (p0:Int):Int×Int×Int×Int×Int×Int:=(1,0,p0,1,0,0)
def XH (r:Int×Int×Int×Int×Int×Int):Value:=.agg ⟨[.int .i64 (r.1),.int .i64 (r.2.1),.int .i64 (r.2.2.1),.int .i64 (r.2.2.2.1),.int .i64 (r.2.2.2.2.1),.int .i64 (r.2.2.2.2.2)]⟩
noncomputable def YV:Code:=Tryz.f97.body.getD .skip
def ox:List Item:=AB 60 ([.code YV])
theorem LR (p0:Int) (w:World):Calls Tryz.prog 97 ([.int .i64 p0]:List Value).toArray w fun e w'=>e=.returned (XH (AX p0))∧Below w.heap.size w w':=by
 refine Ab (fn:=Tryz.f97) (c:=YV) (n:=6) ?_
 have K1:=Wk.start w
 refine BF ox K1 [(0,0)] fun w1 K2=>?_
 exact AM K2 (0,0) (.agg ⟨[.int .i64 1,.int .i64 0,.int .i64 p0,.int .i64 1,.int .i64 0,.int .i64 0]⟩) (by unfold AX; rfl)
def D3 (p0:Int):Int:=cond (p0 == 5) (5) (cond (p0 == 6) (6) (cond (p0 == 7) (7) (cond (p0 == 8) (8) (cond (p0 == 9) (9) (cond (p0 == 10) (10) (cond (p0 == 11) (11) (cond (p0 == 14) (12) (cond (p0 == 15) (13) (cond (p0 == 16) (14) (cond (p0 == 17) (15) (0)))))))))))
noncomputable def YY:Code:=Tryz.f98.body.getD .skip
def aL:List Item:=AB 60 ([.code YY])
def o4:List Item:=AB 60 (AG aL)
def aK:List Item:=AB 60 (AL aL)
def o3:List Item:=AB 60 (AG aK)
def aJ:List Item:=AB 60 (AL aK)
def o2:List Item:=AB 60 (AG aJ)
def aI:List Item:=AB 60 (AL aJ)
def o1:List Item:=AB 60 (AG aI)
def aH:List Item:=AB 60 (AL aI)
def o0:List Item:=AB 60 (AG aH)
def Uw:List Item:=AB 60 (AL aH)
def mG:List Item:=AB 60 (AG Uw)
def Uv:List Item:=AB 60 (AL Uw)
def mF:List Item:=AB 60 (AG Uv)
def Uu:List Item:=AB 60 (AL Uv)
def mE:List Item:=AB 60 (AG Uu)
def Ut:List Item:=AB 60 (AL Uu)
def mD:List Item:=AB 60 (AG Ut)
def Us:List Item:=AB 60 (AL Ut)
def mC:List Item:=AB 60 (AG Us)
def Ur:List Item:=AB 60 (AL Us)
def mB:List Item:=AB 60 (AG Ur)
def mA:List Item:=AB 60 (AL Ur)
theorem XI (p0:Int) (w:World):Calls Tryz.prog 98 ([.int .i64 p0]:List Value).toArray w fun e w'=>e=.returned (.int .i64 (D3 p0))∧Below w.heap.size w w':=by
 refine Ab (fn:=Tryz.f98) (c:=YY) (n:=26) ?_
 have K1:=Wk.start w
 refine AC aL K1 [] fun w1 K2=>?_
 refine AK (p0 == 5) (fun c2=>?_) (fun c2=>?_)
 ·refine AC o4 K2 [] fun w3 K3=>?_
  exact AM K3 (0,0) (.int .i64 5) (by unfold D3; rw [c2] <;> rfl)
 ·refine AC aK K2 [] fun w4 K4=>?_
  refine AK (p0 == 6) (fun c5=>?_) (fun c5=>?_)
  ·refine AC o3 K4 [] fun w6 K5=>?_
   exact AM K5 (0,0) (.int .i64 6) (by unfold D3; rw [c2,c5] <;> rfl)
  ·refine AC aJ K4 [] fun w7 K6=>?_
   refine AK (p0 == 7) (fun c8=>?_) (fun c8=>?_)
   ·refine AC o2 K6 [] fun w9 K7=>?_
    exact AM K7 (0,0) (.int .i64 7) (by unfold D3; rw [c2,c5,c8] <;> rfl)
   ·refine AC aI K6 [] fun w10 K8=>?_
    refine AK (p0 == 8) (fun c11=>?_) (fun c11=>?_)
    ·refine AC o1 K8 [] fun w12 K9=>?_
     exact AM K9 (0,0) (.int .i64 8) (by unfold D3; rw [c2,c5,c8,c11] <;> rfl)
    ·refine AC aH K8 [] fun w13 K10=>?_
     refine AK (p0 == 9) (fun c14=>?_) (fun c14=>?_)
     ·refine AC o0 K10 [] fun w15 K11=>?_
      exact AM K11 (0,0) (.int .i64 9) (by unfold D3; rw [c2,c5,c8,c11,c14] <;> rfl)
     ·refine AC Uw K10 [] fun w16 K12=>?_
      refine AK (p0 == 10) (fun c17=>?_) (fun c17=>?_)
      ·refine AC mG K12 [] fun w18 K13=>?_
       exact AM K13 (0,0) (.int .i64 10) (by unfold D3; rw [c2,c5,c8,c11,c14,c17] <;> rfl)
      ·refine AC Uv K12 [] fun w19 K14=>?_
       refine AK (p0 == 11) (fun c20=>?_) (fun c20=>?_)
       ·refine AC mF K14 [] fun w21 K15=>?_
        exact AM K15 (0,0) (.int .i64 11) (by unfold D3; rw [c2,c5,c8,c11,c14,c17,c20] <;> rfl)
       ·refine AC Uu K14 [] fun w22 K16=>?_
        refine AK (p0 == 14) (fun c23=>?_) (fun c23=>?_)
        ·refine AC mE K16 [] fun w24 K17=>?_
         exact AM K17 (0,0) (.int .i64 12) (by unfold D3; rw [c2,c5,c8,c11,c14,c17,c20,c23] <;> rfl)
        ·refine AC Ut K16 [] fun w25 K18=>?_
         refine AK (p0 == 15) (fun c26=>?_) (fun c26=>?_)
         ·refine AC mD K18 [] fun w27 K19=>?_
          exact AM K19 (0,0) (.int .i64 13) (by unfold D3; rw [c2,c5,c8,c11,c14,c17,c20,c23,c26] <;> rfl)
         ·refine AC Us K18 [] fun w28 K20=>?_
          refine AK (p0 == 16) (fun c29=>?_) (fun c29=>?_)
          ·refine AC mC K20 [] fun w30 K21=>?_
           exact AM K21 (0,0) (.int .i64 14) (by unfold D3; rw [c2,c5,c8,c11,c14,c17,c20,c23,c26,c29] <;> rfl)
          ·refine AC Ur K20 [] fun w31 K22=>?_
           refine AK (p0 == 17) (fun c32=>?_) (fun c32=>?_)
           ·refine AC mB K22 [] fun w33 K23=>?_
            exact AM K23 (0,0) (.int .i64 15) (by unfold D3; rw [c2,c5,c8,c11,c14,c17,c20,c23,c26,c29,c32] <;> rfl)
           ·refine AC mA K22 [] fun w34 K24=>?_
            exact AM K24 (0,0) (.int .i64 0) (by unfold D3; rw [c2,c5,c8,c11,c14,c17,c20,c23,c26,c29,c32] <;> rfl)
def Am (p0:Int):Int×Int:=cond (p0 == 1) ((0,1)) (cond (p0 == 2) ((0,1)) (cond (p0 == 3) ((0,1)) (cond (p0 == 19) ((0,1)) (cond (p0 == 20) ((0,1)) (cond (p0 == 4) ((1,1)) (cond (p0 == 14) ((1,1)) (cond (p0 == 15) ((1,1)) (cond (p0 == 18) ((1,1)) (cond (p0 == 17) ((1,0)) (cond (p0 == 16) ((0,0)) ((2,1))))))))))))
def ax (r:Int×Int):Value:=.tuple #[.int .i64 (r.1),.int .i64 (r.2)]
noncomputable def Ya:Code:=Tryz.f60.body.getD .skip
def aR:List Item:=AB 60 ([.code Ya])
def j1:List Item:=AB 60 (AG aR)
def pD:List Item:=AB 60 (AG j1)
def aQ:List Item:=AB 60 (AL aR)
def j0:List Item:=AB 60 (AG aQ)
def o8:List Item:=AB 60 (AG j0)
def aP:List Item:=AB 60 (AL aQ)
def jz:List Item:=AB 60 (AG aP)
def o7:List Item:=AB 60 (AG jz)
def aO:List Item:=AB 60 (AL aP)
def d4:List Item:=AB 60 (AG aO)
def mV:List Item:=AB 60 (AG d4)
def U9:List Item:=AB 60 (AL aO)
def mU:List Item:=AB 60 (AG U9)
def U8:List Item:=AB 60 (AL U9)
def d3:List Item:=AB 60 (AG U8)
def mT:List Item:=AB 60 (AG d3)
def U7:List Item:=AB 60 (AL U8)
def dz:List Item:=AB 60 (AG U7)
def mS:List Item:=AB 60 (AG dz)
def U6:List Item:=AB 60 (AL U7)
def dy:List Item:=AB 60 (AG U6)
def mR:List Item:=AB 60 (AG dy)
def U5:List Item:=AB 60 (AL U6)
def mQ:List Item:=AB 60 (AG U5)
def U4:List Item:=AB 60 (AL U5)
def mP:List Item:=AB 60 (AG U4)
def U3:List Item:=AB 60 (AL U4)
def mO:List Item:=AB 60 (AG U3)
def mN:List Item:=AB 60 (AL U3)
theorem Vh (p0:Int) (w:World):Calls Tryz.prog 60 ([.int .i64 p0]:List Value).toArray w fun e w'=>e=.returned (ax (Am p0))∧Below w.heap.size w w':=by
 refine Ab (fn:=Tryz.f60) (c:=Ya) (n:=20) ?_
 have K1:=Wk.start w
 refine AC aR K1 [] fun w1 K2=>?_
 refine AK (p0 == 1) (fun c2=>?_) (fun c2=>?_)
 ·refine AC j1 K2 [] fun w3 K3=>?_
  refine AK (p0 == 1) (fun _=>?_) (fun h=>nomatch h.symm.trans c2)
  refine AC pD K3 [] fun w5 K4=>?_
  exact AM K4 (0,0) (.tuple #[.int .i64 0,.int .i64 1]) (by unfold Am; rw [c2] <;> rfl)
 ·refine AC aQ K2 [] fun w6 K5=>?_
  refine AK (p0 == 2) (fun c7=>?_) (fun c7=>?_)
  ·refine AC j0 K5 [] fun w8 K6=>?_
   refine AK (p0 == 2) (fun _=>?_) (fun h=>nomatch h.symm.trans c7)
   refine AC o8 K6 [] fun w10 K7=>?_
   exact AM K7 (0,0) (.tuple #[.int .i64 0,.int .i64 1]) (by unfold Am; rw [c2,c7] <;> rfl)
  ·refine AC aP K5 [] fun w11 K8=>?_
   refine AK (p0 == 3) (fun c12=>?_) (fun c12=>?_)
   ·refine AC jz K8 [] fun w13 K9=>?_
    refine AK (p0 == 3) (fun _=>?_) (fun h=>nomatch h.symm.trans c12)
    refine AC o7 K9 [] fun w15 K10=>?_
    exact AM K10 (0,0) (.tuple #[.int .i64 0,.int .i64 1]) (by unfold Am; rw [c2,c7,c12] <;> rfl)
   ·refine AC aO K8 [] fun w16 K11=>?_
    refine AK (p0 == 19) (fun c17=>?_) (fun c17=>?_)
    ·refine AC d4 K11 [] fun w18 K12=>?_
     refine AK (p0 == 19) (fun _=>?_) (fun h=>nomatch h.symm.trans c17)
     refine AC mV K12 [] fun w20 K13=>?_
     exact AM K13 (0,0) (.tuple #[.int .i64 0,.int .i64 1]) (by unfold Am; rw [c2,c7,c12,c17] <;> rfl)
    ·refine AC U9 K11 [] fun w21 K14=>?_
     refine AK (p0 == 20) (fun c22=>?_) (fun c22=>?_)
     ·refine AC mU K14 [] fun w23 K15=>?_
      exact AM K15 (0,0) (.tuple #[.int .i64 0,.int .i64 1]) (by unfold Am; rw [c2,c7,c12,c17,c22] <;> rfl)
     ·refine AC U8 K14 [] fun w24 K16=>?_
      refine AK (p0 == 4) (fun c25=>?_) (fun c25=>?_)
      ·refine AC d3 K16 [] fun w26 K17=>?_
       refine AK (p0 == 4) (fun _=>?_) (fun h=>nomatch h.symm.trans c25)
       refine AC mT K17 [] fun w28 K18=>?_
       exact AM K18 (0,0) (.tuple #[.int .i64 1,.int .i64 1]) (by unfold Am; rw [c2,c7,c12,c17,c22,c25] <;> rfl)
      ·refine AC U7 K16 [] fun w29 K19=>?_
       refine AK (p0 == 14) (fun c30=>?_) (fun c30=>?_)
       ·refine AC dz K19 [] fun w31 K20=>?_
        refine AK (p0 == 14) (fun _=>?_) (fun h=>nomatch h.symm.trans c30)
        refine AC mS K20 [] fun w33 K21=>?_
        exact AM K21 (0,0) (.tuple #[.int .i64 1,.int .i64 1]) (by unfold Am; rw [c2,c7,c12,c17,c22,c25,c30] <;> rfl)
       ·refine AC U6 K19 [] fun w34 K22=>?_
        refine AK (p0 == 15) (fun c35=>?_) (fun c35=>?_)
        ·refine AC dy K22 [] fun w36 K23=>?_
         refine AK (p0 == 15) (fun _=>?_) (fun h=>nomatch h.symm.trans c35)
         refine AC mR K23 [] fun w38 K24=>?_
         exact AM K24 (0,0) (.tuple #[.int .i64 1,.int .i64 1]) (by unfold Am; rw [c2,c7,c12,c17,c22,c25,c30,c35] <;> rfl)
        ·refine AC U5 K22 [] fun w39 K25=>?_
         refine AK (p0 == 18) (fun c40=>?_) (fun c40=>?_)
         ·refine AC mQ K25 [] fun w41 K26=>?_
          exact AM K26 (0,0) (.tuple #[.int .i64 1,.int .i64 1]) (by unfold Am; rw [c2,c7,c12,c17,c22,c25,c30,c35,c40] <;> rfl)
         ·refine AC U4 K25 [] fun w42 K27=>?_
          refine AK (p0 == 17) (fun c43=>?_) (fun c43=>?_)
          ·refine AC mP K27 [] fun w44 K28=>?_
           exact AM K28 (0,0) (.tuple #[.int .i64 1,.int .i64 0]) (by unfold Am; rw [c2,c7,c12,c17,c22,c25,c30,c35,c40,c43] <;> rfl)
          ·refine AC U3 K27 [] fun w45 K29=>?_
           refine AK (p0 == 16) (fun c46=>?_) (fun c46=>?_)
           ·refine AC mO K29 [] fun w47 K30=>?_
            exact AM K30 (0,0) (.tuple #[.int .i64 0,.int .i64 0]) (by unfold Am; rw [c2,c7,c12,c17,c22,c25,c30,c35,c40,c43,c46] <;> rfl)
           ·refine AC mN K29 [] fun w48 K31=>?_
            exact AM K31 (0,0) (.tuple #[.int .i64 2,.int .i64 1]) (by unfold Am; rw [c2,c7,c12,c17,c22,c25,c30,c35,c40,c43,c46] <;> rfl)
def Em (p0:Int):Bool:=cond (decide (0≤p0)) (decide (p0≤6)) (false)
noncomputable def YX:Code:=Tryz.f57.body.getD .skip
def jp:List Item:=Ac 1 ([.code YX])
def oz:List Item:=AB 60 (AO jp)
theorem LL (p0:Int) (w:World):Calls Tryz.prog 57 ([.int .i64 p0]:List Value).toArray w fun e w'=>e=.returned (.bool (Em p0))∧Below w.heap.size w w':=by
 refine Ab (fn:=Tryz.f57) (c:=YX) (n:=9) ?_
 have K1:=Wk.start w
 refine Ag 1 jp K1 [] fun w1 K2=>?_
 refine Aj K2 [] [] K2.G (fun sp hsp=>by cases hsp) fun w2 E2 K3=>?_
 refine AC oz K3 [] fun w3 K4=>?_
 exact AM K4 (0,0) (.bool (cond (decide (0≤p0)) (decide (p0≤6)) (false))) (by unfold Em; rfl)
def Dj (p0a:Int) (p0b:Int):Bool:=cond (C4 p0a p0b) (decide (0 < p0a)) (false)
noncomputable def YR:Code:=Tryz.f58.body.getD .skip
def jd:List Item:=Ac 1 ([.code YR])
def om:List Item:=AB 60 (AO jd)
theorem Is (p0a:Int) (p0b:Int) (w:World):Calls Tryz.prog 58 ([.agg ⟨[.int .i64 p0a,.int .i64 p0b]⟩]:List Value).toArray w fun e w'=>e=.returned (.bool (Dj p0a p0b))∧Below w.heap.size w w':=by
 refine Ab (fn:=Tryz.f58) (c:=YR) (n:=10) ?_
 have K1:=Wk.start w
 refine Bw 1 jd [⟨w.heap.size,0,[.int .i64 p0a,.int .i64 p0b],29,true⟩] K1 [] fun w1 K2=>?_
 refine Aj K2 [(0,0,0),(4,0,0)] [⟨1,[(3,.agg ⟨[.int .i64 p0a,.int .i64 p0b]⟩)],.bool (C4 p0a p0b),true⟩] K2.G (fun sp hsp=>?_) fun w2 E2 K3=>?_
 ·rw [List.mem_singleton.1 hsp]
  exact AR 56 [.tmp 3] [.agg ⟨[.int .i64 p0a,.int .i64 p0b]⟩] (fun _=>by kernel_rfl) fun hc u hu=>AP hu (Es p0a p0b u)
 refine AC om K3 [] fun w3 K4=>?_
 exact AM K4 (0,0) (.bool (cond (C4 p0a p0b) (decide (0 < p0a)) (false))) (by unfold Dj; rfl)
def DN (p0:Int) (p1:Int):Bool:=cond (decide (0≤p0)) (decide (p0 < p1)) (false)
noncomputable def YQ:Code:=Tryz.f59.body.getD .skip
def jO:List Item:=Ac 1 ([.code YQ])
def ol:List Item:=AB 60 (AO jO)
theorem F2 (p0:Int) (p1:Int) (w:World):Calls Tryz.prog 59 ([.int .i64 p0,.int .i64 p1]:List Value).toArray w fun e w'=>e=.returned (.bool (DN p0 p1))∧Below w.heap.size w w':=by
 refine Ab (fn:=Tryz.f59) (c:=YQ) (n:=12) ?_
 have K1:=Wk.start w
 refine Ag 1 jO K1 [] fun w1 K2=>?_
 refine Aj K2 [] [] K2.G (fun sp hsp=>by cases hsp) fun w2 E2 K3=>?_
 refine AC ol K3 [] fun w3 K4=>?_
 exact AM K4 (0,0) (.bool (cond (decide (0≤p0)) (decide (p0 < p1)) (false))) (by unfold DN; rfl)
def Dq (p0b:Bool) (p0c:Int) (p0da:Int) (p0db:Int):Bool:=cond (!(p0b)) (cond (p0c == 0) ((p0da == 0) && (p0db == 0)) (false)) (cond (cond (Em p0c) (Dj p0da p0db) (false)) (Int.tmod 100 p0db == 0) (false))
noncomputable def YT:Code:=Tryz.f24.body.getD .skip
def aE:List Item:=AB 60 ([.code YT])
def jj:List Item:=Ac 2 (AG aE)
def ov:List Item:=AB 60 (AO jj)
def ji:List Item:=Ac 3 (AL aE)
def ou:List Item:=AB 60 (AO ji)
theorem Kl (p0a:List UInt8) (p0b:Bool) (p0c:Int) (p0da:Int) (p0db:Int) (p0eA:Option Addr) (p0en:Nat) (p0ec:Nat) (w:World):Calls Tryz.prog 24 ([.agg ⟨[.string ⟨⟨p0a⟩⟩,.bool p0b,.int .i64 p0c,.int .i64 p0da,.int .i64 p0db,.slice p0eA p0en p0ec]⟩]:List Value).toArray w fun e w'=>e=.returned (.bool (Dq p0b p0c p0da p0db))∧Below w.heap.size w w':=by
 refine Ab (fn:=Tryz.f24) (c:=YT) (n:=30) ?_
 have K1:=Wk.start w
 refine Bv aE [⟨w.heap.size,0,[.string ⟨⟨p0a⟩⟩,.bool p0b,.int .i64 p0c,.int .i64 p0da,.int .i64 p0db,.slice p0eA p0en p0ec],49,true⟩] K1 [(0,1)] fun w1 K2=>?_
 refine AK (!(p0b)) (fun c2=>?_) (fun c2=>?_)
 ·refine Ag 2 jj K2 [] fun w3 K3=>?_
  refine Aj K3 [(1,0,2),(5,0,3)] [⟨7,[(11,.agg ⟨[.int .i64 p0da,.int .i64 p0db]⟩),(12,.agg ⟨[.int .i64 0,.int .i64 0]⟩)],.bool ((p0da == 0) && (p0db == 0)),((p0c == 0)) && (true)⟩] K3.G (fun sp hsp=>?_) fun w4 E4 K4=>?_
  ·rw [List.mem_singleton.1 hsp]
   exact Av fun _ E u _=>EC (k:=.eql) (T:=29) (a:=.agg ⟨[.int .i64 p0da,.int .i64 p0db]⟩) (b:=.agg ⟨[.int .i64 0,.int .i64 0]⟩) (Eg u p0da p0db 0 0)
  refine AC ov K4 [] fun w5 K5=>?_
  exact AM K5 (0,0) (.bool (cond (p0c == 0) ((p0da == 0) && (p0db == 0)) (false))) (by unfold Dq; rw [c2] <;> rfl)
 ·refine Ag 3 ji K2 [] fun w6 K6=>?_
  refine Aj K6 [(1,0,2),(5,0,3),(11,0,4)] [⟨2,[(16,.int .i64 p0c)],.bool (Em p0c),true⟩,⟨6,[(20,.agg ⟨[.int .i64 p0da,.int .i64 p0db]⟩)],.bool (Dj p0da p0db),((Em p0c)) && (true)⟩,⟨12,[(26,.int .i64 p0db)],.int .i64 (Int.tmod 100 p0db),((cond (Em p0c) (Dj p0da p0db) (false))) && (true)⟩] K6.G (fun sp hsp=>?_) fun w7 E7 K7=>?_
  ·simp only [List.mem_cons,List.not_mem_nil,or_false] at hsp
   rcases hsp with rfl | rfl | rfl
   ·exact AR 57 [.tmp 16] [.int .i64 p0c] (fun _=>by kernel_rfl) fun hc u hu=>AP hu (LL p0c u)
   ·exact AR 58 [.tmp 20] [.agg ⟨[.int .i64 p0da,.int .i64 p0db]⟩] (fun _=>by kernel_rfl) fun hc u hu=>AP hu (Is p0da p0db u)
   ·exact Av fun hc E u _=>Lf (T:=3) (T':=3) (x:=.const (.int .i64 100)) (y:=.tmp 26) (by kernel_rfl) (by kernel_rfl) (by kernel_rfl) (by simp [Dj,C4] at hc; omega)
  refine AC ou K7 [] fun w8 K8=>?_
  exact AM K8 (0,0) (.bool (cond (cond (Em p0c) (Dj p0da p0db) (false)) (Int.tmod 100 p0db == 0) (false))) (by unfold Dq; rw [c2] <;> rfl)
def C6 (p0a:Int) (p0ca:Int) (p0cb:Int) (p0d:Int) (p0e:Int):Bool:=cond (p0a == 1) (cond (cond (C4 p0ca p0cb) (p0d == 0) (false)) (p0e == 0) (false)) (cond (p0a == 18) (cond (cond (Dj p0ca p0cb) (p0d == 0) (false)) (Em p0e) (false)) (cond (p0a == 19) (cond (cond ((p0ca == 0) && (p0cb == 0)) (cond (decide (1≤p0d)) (decide (p0d≤120)) (false)) (false)) (p0e == 0) (false)) (cond (p0a == 20) (cond (cond ((p0ca == 0) && (p0cb == 0)) (cond (decide (1≤p0d)) (decide (p0d≤120)) (false)) (false)) (p0e == 0) (false)) (cond (cond ((p0ca == 0) && (p0cb == 0)) (p0d == 0) (false)) (p0e == 0) (false)))))
noncomputable def YZ:Code:=Tryz.f25.body.getD .skip
def jy:List Item:=Ac 1 ([.code YZ])
def jx:List Item:=Ac 2 (AO jy)
def aN:List Item:=AB 60 (AO jx)
def jw:List Item:=AB 60 (AG aN)
def jv:List Item:=Ac 11 (AF jw)
def o6:List Item:=AB 60 (AO jv)
def aM:List Item:=AB 60 (AL aN)
def ju:List Item:=Ac 7 (AG aM)
def jt:List Item:=Ac 11 (AO ju)
def o5:List Item:=AB 60 (AO jt)
def U2:List Item:=AB 60 (AL aM)
def dx:List Item:=AB 60 (AG U2)
def dw:List Item:=Ac 10 (AG dx)
def dv:List Item:=Ac 11 (AO dw)
def mM:List Item:=AB 60 (AO dv)
def U1:List Item:=AB 60 (AL U2)
def dt:List Item:=Ac 10 (AG U1)
def dq:List Item:=Ac 11 (AO dt)
def mL:List Item:=AB 60 (AO dq)
def dp:List Item:=Ac 11 (AL U1)
def mK:List Item:=AB 60 (AO dp)
theorem Lo (p0a:Int) (p0b:Int) (p0ca:Int) (p0cb:Int) (p0d:Int) (p0e:Int) (w:World):Calls Tryz.prog 25 ([.agg ⟨[.int .i64 p0a,.int .i64 p0b,.int .i64 p0ca,.int .i64 p0cb,.int .i64 p0d,.int .i64 p0e]⟩]:List Value).toArray w fun e w'=>e=.returned (.bool (C6 p0a p0ca p0cb p0d p0e))∧Below w.heap.size w w':=by
 refine Ab (fn:=Tryz.f25) (c:=YZ) (n:=49) ?_
 have K1:=Wk.start w
 refine Bw 1 jy [⟨w.heap.size,0,[.int .i64 p0a,.int .i64 p0b,.int .i64 p0ca,.int .i64 p0cb,.int .i64 p0d,.int .i64 p0e],53,true⟩] K1 [] fun w1 K2=>?_
 refine Aj K2 [(1,0,2)] [⟨3,[(7,.agg ⟨[.int .i64 p0ca,.int .i64 p0cb]⟩),(8,.agg ⟨[.int .i64 0,.int .i64 0]⟩)],.bool ((p0ca == 0) && (p0cb == 0)),true⟩] K2.G (fun sp hsp=>?_) fun w2 E2 K3=>?_
 ·rw [List.mem_singleton.1 hsp]
  exact Av fun _ E u _=>EC (k:=.eql) (T:=29) (a:=.agg ⟨[.int .i64 p0ca,.int .i64 p0cb]⟩) (b:=.agg ⟨[.int .i64 0,.int .i64 0]⟩) (Eg u p0ca p0cb 0 0)
 refine Ag 2 jx K3 [] fun w3 K4=>?_
 refine Aj K4 [(1,0,4),(4,0,5)] [] K4.G (fun sp hsp=>by cases hsp) fun w4 E4 K5=>?_
 refine AC aN K5 [(0,0)] fun w5 K6=>?_
 refine AK (p0a == 1) (fun c6=>?_) (fun c6=>?_)
 ·refine AC jw K6 [(0,2)] fun w7 K7=>?_
  refine Ak K7 (Es p0ca p0cb w7) fun w8 K8=>?_
  refine Ag 11 jv K8 [] fun w9 K9=>?_
  refine Aj K9 [] [] K9.G (fun sp hsp=>by cases hsp) fun w10 E10 K10=>?_
  refine AC o6 K10 [] fun w11 K11=>?_
  exact AM K11 (0,0) (.bool (cond (cond (C4 p0ca p0cb) (p0d == 0) (false)) (p0e == 0) (false))) (by unfold C6; rw [c6] <;> rfl)
 ·refine AC aM K6 [] fun w12 K12=>?_
  refine AK (p0a == 18) (fun c13=>?_) (fun c13=>?_)
  ·refine Ag 7 ju K12 [] fun w14 K13=>?_
   refine Aj K13 [(1,0,2),(4,0,5)] [⟨2,[(26,.agg ⟨[.int .i64 p0ca,.int .i64 p0cb]⟩)],.bool (Dj p0ca p0cb),true⟩,⟨5,[(29,.int .i64 p0e)],.bool (Em p0e),true⟩] K13.G (fun sp hsp=>?_) fun w15 E15 K14=>?_
   ·simp only [List.mem_cons,List.not_mem_nil,or_false] at hsp
    rcases hsp with rfl | rfl
    ·exact AR 58 [.tmp 26] [.agg ⟨[.int .i64 p0ca,.int .i64 p0cb]⟩] (fun _=>by kernel_rfl) fun hc u hu=>AP hu (Is p0ca p0cb u)
    ·exact AR 57 [.tmp 29] [.int .i64 p0e] (fun _=>by kernel_rfl) fun hc u hu=>AP hu (LL p0e u)
   refine Ag 11 jt K14 [] fun w16 K15=>?_
   refine Aj K15 [] [] K15.G (fun sp hsp=>by cases hsp) fun w17 E17 K16=>?_
   refine AC o5 K16 [] fun w18 K17=>?_
   exact AM K17 (0,0) (.bool (cond (cond (Dj p0ca p0cb) (p0d == 0) (false)) (Em p0e) (false))) (by unfold C6; rw [c6,c13] <;> rfl)
  ·refine AC U2 K12 [] fun w19 K18=>?_
   refine AK (p0a == 19) (fun c20=>?_) (fun c20=>?_)
   ·refine AC dx K18 [] fun w21 K19=>?_
    refine AK (p0a == 19) (fun _=>?_) (fun h=>nomatch h.symm.trans c20)
    refine Ag 10 dw K19 [] fun w23 K20=>?_
    refine Aj K20 [(1,0,4),(5,0,4)] [] K20.G (fun sp hsp=>by cases hsp) fun w24 E24 K21=>?_
    refine Ag 11 dv K21 [] fun w25 K22=>?_
    refine Aj K22 [] [] K22.G (fun sp hsp=>by cases hsp) fun w26 E26 K23=>?_
    refine AC mM K23 [] fun w27 K24=>?_
    exact AM K24 (0,0) (.bool (cond (cond ((p0ca == 0) && (p0cb == 0)) (cond (decide (1≤p0d)) (decide (p0d≤120)) (false)) (false)) (p0e == 0) (false))) (by unfold C6; rw [c6,c13,c20] <;> rfl)
   ·refine AC U1 K18 [] fun w28 K25=>?_
    refine AK (p0a == 20) (fun c29=>?_) (fun c29=>?_)
    ·refine Ag 10 dt K25 [] fun w30 K26=>?_
     refine Aj K26 [(1,0,4),(5,0,4)] [] K26.G (fun sp hsp=>by cases hsp) fun w31 E31 K27=>?_
     refine Ag 11 dq K27 [] fun w32 K28=>?_
     refine Aj K28 [] [] K28.G (fun sp hsp=>by cases hsp) fun w33 E33 K29=>?_
     refine AC mL K29 [] fun w34 K30=>?_
     exact AM K30 (0,0) (.bool (cond (cond ((p0ca == 0) && (p0cb == 0)) (cond (decide (1≤p0d)) (decide (p0d≤120)) (false)) (false)) (p0e == 0) (false))) (by unfold C6; rw [c6,c13,c20,c29] <;> rfl)
    ·refine Ag 11 dp K25 [] fun w35 K31=>?_
     refine Aj K31 [] [] K31.G (fun sp hsp=>by cases hsp) fun w36 E36 K32=>?_
     refine AC mK K32 [] fun w37 K33=>?_
     exact AM K33 (0,0) (.bool (cond (cond ((p0ca == 0) && (p0cb == 0)) (p0d == 0) (false)) (p0e == 0) (false))) (by unfold C6; rw [c6,c13,c20,c29] <;> rfl)
def DR:List (Int×Int×Int)→Bool→Int→Bool
 | [],a0_0,a0_1=>true
 | e0 :: tl,a0_0,a0_1=>cond (cond (cond (decide (e0.1≤a0_1)) (true) (decide (1000000 < e0.1))) (true) (!(C4 e0.2.1 e0.2.2))) (false) (DR tl a0_0 e0.1)
theorem Jo {a0_0:Bool} {a0_1:Int}:DR [] a0_0 a0_1=(true):=by rw [DR]
theorem Jk {a0_0:Bool} {a0_1:Int} {es:List (Int×Int×Int)} (i:Nat) (e0:Int×Int×Int) (hi:es[i]?=some e0):DR (es.drop i) a0_0 a0_1=(cond (cond (cond (decide (e0.1≤a0_1)) (true) (decide (1000000 < e0.1))) (true) (!(C4 e0.2.1 e0.2.2))) (false) (DR (es.drop (i + 1)) a0_0 e0.1)):=by
 have hl:i < es.length:=(List.getElem?_eq_some_iff.1 hi).1
 have he:es[i]=e0:=(List.getElem?_eq_some_iff.1 hi).2
 rw [← List.getElem_cons_drop hl,DR] <;> (try rw [he])
def EL (es:List (Int×Int×Int)):Bool:=cond (cond (decide ((es.length:Int) < 1)) (true) (decide (64 < (es.length:Int)))) (false) (DR es false (-1))
noncomputable def YS:Code:=Tryz.f23.body.getD .skip
def jh:List Item:=Ac 1 ([.code YS])
def aD:List Item:=AB 60 (AO jh)
def ot:List Item:=AB 60 (AG aD)
def aC:List Item:=AB 60 (AL aD)
def Um:List Item:=AB 60 (A4 aC)
def jg:List Item:=AB (As Ae 90 (AG Um)) (AG Um)
def jf:List Item:=Ac 7 (AF (AF jg))
def je:List Item:=AB 60 (AO jf)
def or:List Item:=AB 60 (AG je)
def oq:List Item:=AB 60 (AL Um)
theorem NG (p0A:Option Addr) (es:List (Int×Int×Int)) (p0c:Nat) (w:World) (h_es:C1 w p0A es) (hl_es:es.length≤4294967296):Calls Tryz.prog 23 ([.slice p0A es.length p0c]:List Value).toArray w fun e w'=>e=.returned (.bool (EL es))∧Below w.heap.size w w':=by
 refine Ab (fn:=Tryz.f23) (c:=YS) (n:=38) ?_
 have K1:=Wk.start w
 refine Ag 1 jh K1 [] fun w1 K2=>?_
 refine Aj K2 [] [] K2.G (fun sp hsp=>by cases hsp) fun w2 E2 K3=>?_
 refine AC aD K3 [] fun w3 K4=>?_
 refine AK (cond (decide ((es.length:Int) < 1)) (true) (decide (64 < (es.length:Int)))) (fun c4=>?_) (fun c4=>?_)
 ·refine AC ot K4 [] fun w5 K5=>?_
  exact AM K5 (0,0) (.bool false) (by unfold EL; rw [c4] <;> rfl)
 ·refine AC aC K4 [] fun w6 K6=>?_
  have K7:Wk w w6 [] [] []:=K6.pk [] []
  have hv0:(EL es)=DR es false (-1):=by unfold EL; rw [c4] <;> rfl
  refine Ax [(2,.bool false),(3,.int .i64 (-1)),(14,.slice p0A es.length p0c),(15,.int .i64 ((es.length:Int))),(16,.int .i64 (((0:Nat):Int)))] fun E7=>?_
  refine Bj (by kernel_rfl) (fun E wx0=>∃ (i0:Nat) (a0_0:Bool) (a0_1:Int) (E0:Nat→Value),i0≤es.length∧E=CX E0 [(2,.bool a0_0),(3,.int .i64 a0_1),(14,.slice p0A es.length p0c),(15,.int .i64 ((es.length:Int))),(16,.int .i64 ((i0:Int)))]∧(EL es)=DR (List.drop i0 es) a0_0 a0_1∧Wk w wx0 [] [] []) (fun E _=>es.length - AQ (E 16)) ⟨0,false,(-1),E7,Nat.zero_le _,rfl,hv0,K7⟩ ?_
  clear hv0
  rintro E wx0 ⟨i0,a0_0,a0_1,E0,hi0,rfl,hv0,K8⟩ hagain0
  refine AC Um K8 [] fun w9 K9=>?_
  refine AK (decide ((i0:Int) < (es.length:Int))) (fun c10=>?_) (fun c10=>?_)
  ·have hlt0:i0 < es.length:=by have:=of_decide_eq_true c10; omega
   obtain ⟨e0,he0⟩:∃ e,es[i0]?=some e:=⟨_,List.getElem?_eq_getElem hlt0⟩
   rw [Jk i0 e0 he0] at hv0
   obtain ⟨gB0,fB0,rfl,hB0g,hB0a⟩:=h_es.all (by omega)
   have hr0_:=hB0a i0 _ he0
   refine BA Ae jg K9 [] fun w11 K10=>?_
   refine BB (g:=gB0) (off:=fB0) (cap:=p0c) (sz:=3) (k:=i0) (len:=es.length) (some 18) hlt0 Tryz.underlying27 ?_
   refine Bc 97 gB0 (fB0 + i0 * 3) [.int .i64 e0.1,.int .i64 e0.2.1,.int .i64 e0.2.2] (some 19) (Af hr0_ hB0g K10.B) ?_
   refine Bw 7 jf [⟨w11.heap.size,0,[.int .i64 e0.1,.int .i64 e0.2.1,.int .i64 e0.2.2],97,true⟩] K10 [(0,0)] fun w12 K11=>?_
   refine Aj K11 [(1,0,0),(6,0,0),(11,0,1)] [⟨12,[(31,.agg ⟨[.int .i64 e0.2.1,.int .i64 e0.2.2]⟩)],.bool (C4 e0.2.1 e0.2.2),(!(cond (decide (e0.1≤a0_1)) (true) (decide (1000000 < e0.1)))) && (true)⟩] K11.G (fun sp hsp=>?_) fun w13 E13 K12=>?_
   ·rw [List.mem_singleton.1 hsp]
    exact AR 56 [.tmp 31] [.agg ⟨[.int .i64 e0.2.1,.int .i64 e0.2.2]⟩] (fun _=>by kernel_rfl) fun hc u hu=>AP hu (Es e0.2.1 e0.2.2 u)
   refine AC je K12 [] fun w14 K13=>?_
   refine AK (cond (cond (decide (e0.1≤a0_1)) (true) (decide (1000000 < e0.1))) (true) (!(C4 e0.2.1 e0.2.2))) (fun c15=>?_) (fun c15=>?_)
   ·refine AC or K13 [] fun w16 K14=>?_
    exact AM K14 (0,0) (.bool false) (by rw [hv0,c15] <;> rfl)
   ·refine AC (Ai aC) K13 [(0,0)] fun w17 K15=>?_
    refine Ax [(2,.bool a0_0),(3,.int .i64 e0.1),(14,.slice (some ⟨gB0,fB0,none⟩) es.length p0c),(15,.int .i64 ((es.length:Int))),(16,.int .i64 (IntKind.i64.wrap ((i0:Int) + 1)))] fun E18=>?_
    have K16:Wk w w17 [] [] []:=K15.pk [] []
    rw [Bf i0 (by omega)]
    refine hagain0 _ _ ⟨i0 + 1,a0_0,e0.1,E18,hlt0,rfl,by rw [hv0,c15] <;> rfl,K16⟩ ?_
    show es.length - AQ (.int .i64 ((i0 + 1:Nat):Int)) < es.length - AQ (.int .i64 (i0:Int))
    simp only [AQ]
    omega
  ·have hie0:i0=es.length:=by have:=of_decide_eq_false c10; omega
   rw [hie0,List.drop_length,Jo] at hv0
   refine AC oq K9 [] fun w19 K17=>?_
   exact AM K17 (0,0) (.bool true) (by rw [hv0] <;> rfl)
def Gp (d:Df) (b:Df):Bool:=cond (!(decide (d.name=b.name))) (false) (cond (cond (d.kind == 5) (true) (b.kind == 5)) (d.kind == b.kind) (cond (cond (cond (!(d.kind == b.kind)) (true) (d.kind == 1)) (true) (!((((Ad d.kind d.tb d.tm d.th d.td).1) == ((Ad b.kind b.tb b.tm b.th b.td).1)) && (((Ad d.kind d.tb d.tm d.th d.td).2.1 == (Ad b.kind b.tb b.tm b.th b.td).2.1) && (((Ad d.kind d.tb d.tm d.th d.td).2.2.1 == (Ad b.kind b.tb b.tm b.th b.td).2.2.1) && ((Ad d.kind d.tb d.tm d.th d.td).2.2.2 == (Ad b.kind b.tb b.tm b.th b.td).2.2.2)))))) (true) (d.frm == b.frm)))
noncomputable def YD:Code:=Tryz.f47.body.getD .skip
def ia:List Item:=Ac 1 ([.code YD])
def Zq:List Item:=AB 60 (AO ia)
def oM:List Item:=AB 60 (AG Zq)
def iZ:List Item:=Ac 3 (AL Zq)
def Zp:List Item:=AB 60 (AO iZ)
def oL:List Item:=AB 60 (AG Zp)
def iY:List Item:=Ac 5 (AL Zp)
def oK:List Item:=AB 60 (AO iY)
theorem Ru (d:Df) (p0A0:Option Addr) (p0c0:Nat) (p0A1:Option Addr) (p0c1:Nat) (b:Df) (p1A0:Option Addr) (p1c0:Nat) (p1A1:Option Addr) (p1c1:Nat) (w:World) (h_d0:C1 w p0A0 d.ents) (h_d1:rowsEx w p0A1 d.body.ks) (h_b0:C1 w p1A0 b.ents) (h_b1:rowsEx w p1A1 b.body.ks):Calls Tryz.prog 47 ([.agg ⟨[.int .i64 d.kind,.string ⟨⟨d.name⟩⟩,.bool (d.tb),.int .i64 d.tm,.int .i64 d.th,.int .i64 d.td,.int .i64 d.frm,.slice p0A0 d.ents.length p0c0,.int .i64 d.body.op,.int .i64 d.body.num,.int .i64 d.body.den,.int .i64 d.body.mu,.int .i64 d.body.hu,.int .i64 d.body.du,.string ⟨⟨d.body.nm⟩⟩,.int .i64 d.body.cnt,.int .i64 d.body.md,.slice p0A1 d.body.ks.length p0c1,.int .i64 d.mode,.int .i64 d.num,.int .i64 d.den]⟩,.agg ⟨[.int .i64 b.kind,.string ⟨⟨b.name⟩⟩,.bool (b.tb),.int .i64 b.tm,.int .i64 b.th,.int .i64 b.td,.int .i64 b.frm,.slice p1A0 b.ents.length p1c0,.int .i64 b.body.op,.int .i64 b.body.num,.int .i64 b.body.den,.int .i64 b.body.mu,.int .i64 b.body.hu,.int .i64 b.body.du,.string ⟨⟨b.body.nm⟩⟩,.int .i64 b.body.cnt,.int .i64 b.body.md,.slice p1A1 b.body.ks.length p1c1,.int .i64 b.mode,.int .i64 b.num,.int .i64 b.den]⟩]:List Value).toArray w fun e w'=>e=.returned (.bool (Gp d b))∧Below w.heap.size w w':=by
 refine Ab (fn:=Tryz.f47) (c:=YD) (n:=47) ?_
 have K1:=Wk.start w
 refine Bw 1 ia [⟨w.heap.size,0,(Be d p0A0 p0c0 p0A1 p0c1),34,true⟩,⟨w.heap.size + 1,0,(Be b p1A0 p1c0 p1A1 p1c1),34,true⟩] K1 [] fun w1 K2=>?_
 refine Aj K2 [(1,0,1),(3,1,1)] [⟨4,[(6,.string ⟨⟨d.name⟩⟩),(8,.string ⟨⟨b.name⟩⟩)],.bool (!(decide (d.name=b.name))),true⟩] K2.G (fun sp hsp=>?_) fun w2 E2 K3=>?_
 ·rw [List.mem_singleton.1 hsp]
  exact Av fun _ E u _=>KI (T:=9) (T':=9) (x:=.tmp 6) (y:=.tmp 8) (by kernel_rfl) (by kernel_rfl) (by kernel_rfl)
 refine AC Zq K3 [] fun w3 K4=>?_
 refine AK (!(decide (d.name=b.name))) (fun c4=>?_) (fun c4=>?_)
 ·refine AC oM K4 [] fun w5 K5=>?_
  exact AM K5 (0,0) (.bool false) (by unfold Gp; rw [c4] <;> rfl)
 ·refine Ag 3 iZ K4 [] fun w6 K6=>?_
  refine Aj K6 [(1,0,0),(5,1,0)] [] K6.G (fun sp hsp=>by cases hsp) fun w7 E7 K7=>?_
  refine AC Zp K7 [] fun w8 K8=>?_
  refine AK (cond (d.kind == 5) (true) (b.kind == 5)) (fun c9=>?_) (fun c9=>?_)
  ·refine AC oL K8 [(0,0),(1,0)] fun w10 K9=>?_
   exact AM K9 (0,0) (.bool (d.kind == b.kind)) (by unfold Gp; rw [c4,c9] <;> rfl)
  ·refine Ag 5 iY K8 [] fun w11 K10=>?_
   refine Aj K10 [(1,0,0),(3,1,0),(7,0,0),(11,0,0),(13,1,0),(19,0,6),(21,1,6)] [⟨12,[(34,.agg ⟨[.int .i64 d.kind,.string ⟨⟨d.name⟩⟩,.bool (d.tb),.int .i64 d.tm,.int .i64 d.th,.int .i64 d.td,.int .i64 d.frm,.slice p0A0 d.ents.length p0c0,.int .i64 d.body.op,.int .i64 d.body.num,.int .i64 d.body.den,.int .i64 d.body.mu,.int .i64 d.body.hu,.int .i64 d.body.du,.string ⟨⟨d.body.nm⟩⟩,.int .i64 d.body.cnt,.int .i64 d.body.md,.slice p0A1 d.body.ks.length p0c1,.int .i64 d.mode,.int .i64 d.num,.int .i64 d.den]⟩)],Dg (Ad d.kind d.tb d.tm d.th d.td),(!(cond (!(d.kind == b.kind)) (true) (d.kind == 1))) && (true)⟩,⟨14,[(36,.agg ⟨[.int .i64 b.kind,.string ⟨⟨b.name⟩⟩,.bool (b.tb),.int .i64 b.tm,.int .i64 b.th,.int .i64 b.td,.int .i64 b.frm,.slice p1A0 b.ents.length p1c0,.int .i64 b.body.op,.int .i64 b.body.num,.int .i64 b.body.den,.int .i64 b.body.mu,.int .i64 b.body.hu,.int .i64 b.body.du,.string ⟨⟨b.body.nm⟩⟩,.int .i64 b.body.cnt,.int .i64 b.body.md,.slice p1A1 b.body.ks.length p1c1,.int .i64 b.mode,.int .i64 b.num,.int .i64 b.den]⟩)],Dg (Ad b.kind b.tb b.tm b.th b.td),(!(cond (!(d.kind == b.kind)) (true) (d.kind == 1))) && (true)⟩,⟨15,[(35,Dg (Ad d.kind d.tb d.tm d.th d.td)),(37,Dg (Ad b.kind b.tb b.tm b.th b.td))],.bool (!((((Ad d.kind d.tb d.tm d.th d.td).1) == ((Ad b.kind b.tb b.tm b.th b.td).1)) && (((Ad d.kind d.tb d.tm d.th d.td).2.1 == (Ad b.kind b.tb b.tm b.th b.td).2.1) && (((Ad d.kind d.tb d.tm d.th d.td).2.2.1 == (Ad b.kind b.tb b.tm b.th b.td).2.2.1) && ((Ad d.kind d.tb d.tm d.th d.td).2.2.2 == (Ad b.kind b.tb b.tm b.th b.td).2.2.2))))),(!(cond (!(d.kind == b.kind)) (true) (d.kind == 1))) && (true)⟩] K10.G (fun sp hsp=>?_) fun w12 E12 K11=>?_
   ·simp only [List.mem_cons,List.not_mem_nil,or_false] at hsp
    rcases hsp with rfl | rfl | rfl
    ·exact AR 85 [.tmp 34] [.agg ⟨[.int .i64 d.kind,.string ⟨⟨d.name⟩⟩,.bool (d.tb),.int .i64 d.tm,.int .i64 d.th,.int .i64 d.td,.int .i64 d.frm,.slice p0A0 d.ents.length p0c0,.int .i64 d.body.op,.int .i64 d.body.num,.int .i64 d.body.den,.int .i64 d.body.mu,.int .i64 d.body.hu,.int .i64 d.body.du,.string ⟨⟨d.body.nm⟩⟩,.int .i64 d.body.cnt,.int .i64 d.body.md,.slice p0A1 d.body.ks.length p0c1,.int .i64 d.mode,.int .i64 d.num,.int .i64 d.den]⟩] (fun _=>by kernel_rfl) fun hc u hu=>AP hu (Gz d.kind d.name d.tb d.tm d.th d.td d.frm p0A0 d.ents.length p0c0 d.body.op d.body.num d.body.den d.body.mu d.body.hu d.body.du d.body.nm d.body.cnt d.body.md p0A1 d.body.ks.length p0c1 d.mode d.num d.den u)
    ·exact AR 85 [.tmp 36] [.agg ⟨[.int .i64 b.kind,.string ⟨⟨b.name⟩⟩,.bool (b.tb),.int .i64 b.tm,.int .i64 b.th,.int .i64 b.td,.int .i64 b.frm,.slice p1A0 b.ents.length p1c0,.int .i64 b.body.op,.int .i64 b.body.num,.int .i64 b.body.den,.int .i64 b.body.mu,.int .i64 b.body.hu,.int .i64 b.body.du,.string ⟨⟨b.body.nm⟩⟩,.int .i64 b.body.cnt,.int .i64 b.body.md,.slice p1A1 b.body.ks.length p1c1,.int .i64 b.mode,.int .i64 b.num,.int .i64 b.den]⟩] (fun _=>by kernel_rfl) fun hc u hu=>AP hu (Gz b.kind b.name b.tb b.tm b.th b.td b.frm p1A0 b.ents.length p1c0 b.body.op b.body.num b.body.den b.body.mu b.body.hu b.body.du b.body.nm b.body.cnt b.body.md p1A1 b.body.ks.length p1c1 b.mode b.num b.den u)
    ·exact Av fun _ E u _=>EC (k:=.neq) (T:=26) (a:=Dg (Ad d.kind d.tb d.tm d.th d.td)) (b:=Dg (Ad b.kind b.tb b.tm b.th b.td)) (NL u ((Ad d.kind d.tb d.tm d.th d.td).1) ((Ad d.kind d.tb d.tm d.th d.td).2.1) ((Ad d.kind d.tb d.tm d.th d.td).2.2.1) ((Ad d.kind d.tb d.tm d.th d.td).2.2.2) ((Ad b.kind b.tb b.tm b.th b.td).1) ((Ad b.kind b.tb b.tm b.th b.td).2.1) ((Ad b.kind b.tb b.tm b.th b.td).2.2.1) ((Ad b.kind b.tb b.tm b.th b.td).2.2.2))
   refine AC oK K11 [] fun w13 K12=>?_
   exact AM K12 (0,0) (.bool (cond (cond (cond (!(d.kind == b.kind)) (true) (d.kind == 1)) (true) (!((((Ad d.kind d.tb d.tm d.th d.td).1) == ((Ad b.kind b.tb b.tm b.th b.td).1)) && (((Ad d.kind d.tb d.tm d.th d.td).2.1 == (Ad b.kind b.tb b.tm b.th b.td).2.1) && (((Ad d.kind d.tb d.tm d.th d.td).2.2.1 == (Ad b.kind b.tb b.tm b.th b.td).2.2.1) && ((Ad d.kind d.tb d.tm d.th d.td).2.2.2 == (Ad b.kind b.tb b.tm b.th b.td).2.2.2)))))) (true) (d.frm == b.frm))) (by unfold Gp; rw [c4,c9] <;> rfl)
def BU (d:Df):Bool:=cond (d.kind == 3) (true) (d.kind == 4)
noncomputable def YN:Code:=Tryz.f91.body.getD .skip
def jI:List Item:=Ac 1 ([.code YN])
def od:List Item:=AB 60 (AO jI)
theorem GC (d:Df) (p0A0:Option Addr) (p0c0:Nat) (p0A1:Option Addr) (p0c1:Nat) (w:World) (h_d0:C1 w p0A0 d.ents) (h_d1:rowsEx w p0A1 d.body.ks):Calls Tryz.prog 91 ([.agg ⟨[.int .i64 d.kind,.string ⟨⟨d.name⟩⟩,.bool (d.tb),.int .i64 d.tm,.int .i64 d.th,.int .i64 d.td,.int .i64 d.frm,.slice p0A0 d.ents.length p0c0,.int .i64 d.body.op,.int .i64 d.body.num,.int .i64 d.body.den,.int .i64 d.body.mu,.int .i64 d.body.hu,.int .i64 d.body.du,.string ⟨⟨d.body.nm⟩⟩,.int .i64 d.body.cnt,.int .i64 d.body.md,.slice p0A1 d.body.ks.length p0c1,.int .i64 d.mode,.int .i64 d.num,.int .i64 d.den]⟩]:List Value).toArray w fun e w'=>e=.returned (.bool (BU d))∧Below w.heap.size w w':=by
 refine Ab (fn:=Tryz.f91) (c:=YN) (n:=11) ?_
 have K1:=Wk.start w
 refine Bw 1 jI [⟨w.heap.size,0,(Be d p0A0 p0c0 p0A1 p0c1),34,true⟩] K1 [] fun w1 K2=>?_
 refine Aj K2 [(1,0,0),(5,0,0)] [] K2.G (fun sp hsp=>by cases hsp) fun w2 E2 K3=>?_
 refine AC od K3 [] fun w3 K4=>?_
 exact AM K4 (0,0) (.bool (cond (d.kind == 3) (true) (d.kind == 4))) (by unfold BU; rfl)
end
end Go.Proofs.YtmcpjkcggfmcmaaGreatDoor

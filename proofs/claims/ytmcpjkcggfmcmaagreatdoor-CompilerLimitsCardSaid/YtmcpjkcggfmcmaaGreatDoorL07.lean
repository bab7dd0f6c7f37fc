/-
  Part 7 of a proof: contracts of functions.
-/
import Derived.Test.YtmcpjkcggfmcmaaGreatDoorL06
set_option linter.all false
namespace Go.Proofs.YtmcpjkcggfmcmaaGreatDoor
noncomputable section
open Go.RowKit
set_option maxRecDepth 100000
set_option maxHeartbeats 1000000
attribute [local irreducible] BD Bb AF AG AL A4 Ai AO BO CV Di Bp At Fr
theorem Ee (l:List UInt8) (w:World) (hs:l.length≤4294967296):Calls Tryz.prog 42 ([.string ⟨⟨l⟩⟩]:List Value).toArray w fun e w'=>e=.returned (.bool (Tk.isName l))∧Below w.heap.size w w':=
 (VW l w (by unfold maxLen; omega)).mono fun _ _ ⟨h1,h2⟩=>⟨h1,M7 h2⟩
def Eh (p0:Int):Bool:=cond (decide (-3≤p0)) (decide (p0≤3)) (false)
noncomputable def Xh:Code:=Tryz.f147.body.getD .skip
def fW:List Item:=Ac 1 ([.code Xh])
def m6:List Item:=AB 60 (AO fW)
theorem J8 (p0:Int) (w:World):Calls Tryz.prog 147 ([.int .i64 p0]:List Value).toArray w fun e w'=>e=.returned (.bool (Eh p0))∧Below w.heap.size w w':=by
 refine Ab (fn:=Tryz.f147) (c:=Xh) (n:=9) ?_
 have K1:=Wk.start w
 refine Ag 1 fW K1 [] fun w1 K2=>?_
 refine Aj K2 [] [] K2.G (fun sp hsp=>by cases hsp) fun w2 E2 K3=>?_
 refine AC m6 K3 [] fun w3 K4=>?_
 exact AM K4 (0,0) (.bool (cond (decide (-3≤p0)) (decide (p0≤3)) (false))) (by unfold Eh; rfl)
def GL (p0:Int):Bool:=cond (decide (0≤p0)) (decide (p0≤6)) (false)
noncomputable def X7:Code:=Tryz.f81.body.getD .skip
def iF:List Item:=Ac 1 ([.code X7])
def n8:List Item:=AB 60 (AO iF)
theorem Mi (p0:Int) (w:World):Calls Tryz.prog 81 ([.int .i64 p0]:List Value).toArray w fun e w'=>e=.returned (.bool (GL p0))∧Below w.heap.size w w':=by
 refine Ab (fn:=Tryz.f81) (c:=X7) (n:=9) ?_
 have K1:=Wk.start w
 refine Ag 1 iF K1 [] fun w1 K2=>?_
 refine Aj K2 [] [] K2.G (fun sp hsp=>by cases hsp) fun w2 E2 K3=>?_
 refine AC n8 K3 [] fun w3 K4=>?_
 exact AM K4 (0,0) (.bool (cond (decide (0≤p0)) (decide (p0≤6)) (false))) (by unfold GL; rfl)
def FZ (p0:Int):Bool:=cond (decide (0≤p0)) (decide (p0≤84005)) (false)
noncomputable def YJ:Code:=Tryz.f78.body.getD .skip
def ir:List Item:=Ac 1 ([.code YJ])
def oU:List Item:=AB 60 (AO ir)
theorem J9 (p0:Int) (w:World):Calls Tryz.prog 78 ([.int .i64 p0]:List Value).toArray w fun e w'=>e=.returned (.bool (FZ p0))∧Below w.heap.size w w':=by
 refine Ab (fn:=Tryz.f78) (c:=YJ) (n:=9) ?_
 have K1:=Wk.start w
 refine Ag 1 ir K1 [] fun w1 K2=>?_
 refine Aj K2 [] [] K2.G (fun sp hsp=>by cases hsp) fun w2 E2 K3=>?_
 refine AC oU K3 [] fun w3 K4=>?_
 exact AM K4 (0,0) (.bool (cond (decide (0≤p0)) (decide (p0≤84005)) (false))) (by unfold FZ; rfl)
def Dw (p0a:Int) (p0b:Int) (p0c:Int):Bool:=cond (cond (Eh p0a) (Eh p0b) (false)) (Eh p0c) (false)
noncomputable def Xl:Code:=Tryz.f122.body.getD .skip
def fc:List Item:=Ac 1 ([.code Xl])
def nF:List Item:=AB 60 (AO fc)
theorem HL (p0a:Int) (p0b:Int) (p0c:Int) (w:World):Calls Tryz.prog 122 ([.agg ⟨[.int .i64 p0a,.int .i64 p0b,.int .i64 p0c]⟩]:List Value).toArray w fun e w'=>e=.returned (.bool (Dw p0a p0b p0c))∧Below w.heap.size w w':=by
 refine Ab (fn:=Tryz.f122) (c:=Xl) (n:=16) ?_
 have K1:=Wk.start w
 refine Bw 1 fc [⟨w.heap.size,0,[.int .i64 p0a,.int .i64 p0b,.int .i64 p0c],24,true⟩] K1 [] fun w1 K2=>?_
 refine Aj K2 [(1,0,0),(5,0,1),(10,0,2)] [⟨2,[(4,.int .i64 p0a)],.bool (Eh p0a),true⟩,⟨6,[(8,.int .i64 p0b)],.bool (Eh p0b),((Eh p0a)) && (true)⟩,⟨11,[(13,.int .i64 p0c)],.bool (Eh p0c),((cond (Eh p0a) (Eh p0b) (false))) && (true)⟩] K2.G (fun sp hsp=>?_) fun w2 E2 K3=>?_
 ·simp only [List.mem_cons,List.not_mem_nil,or_false] at hsp
  rcases hsp with rfl | rfl | rfl
  ·exact AR 147 [.tmp 4] [.int .i64 p0a] (fun _=>by kernel_rfl) fun hc u hu=>AP hu (J8 p0a u)
  ·exact AR 147 [.tmp 8] [.int .i64 p0b] (fun _=>by kernel_rfl) fun hc u hu=>AP hu (J8 p0b u)
  ·exact AR 147 [.tmp 13] [.int .i64 p0c] (fun _=>by kernel_rfl) fun hc u hu=>AP hu (J8 p0c u)
 refine AC nF K3 [] fun w3 K4=>?_
 exact AM K4 (0,0) (.bool (cond (cond (Eh p0a) (Eh p0b) (false)) (Eh p0c) (false))) (by unfold Dw; rfl)
def Dd (p0a:Int) (p0b:Int):Bool:=cond (cond (C4 p0a p0b) (decide (0≤p0a)) (false)) (Int.tmod 1000000 p0b == 0) (false)
noncomputable def YG:Code:=Tryz.f123.body.getD .skip
def ig:List Item:=Ac 1 ([.code YG])
def oQ:List Item:=AB 60 (AO ig)
theorem H9 (p0a:Int) (p0b:Int) (w:World):Calls Tryz.prog 123 ([.agg ⟨[.int .i64 p0a,.int .i64 p0b]⟩]:List Value).toArray w fun e w'=>e=.returned (.bool (Dd p0a p0b))∧Below w.heap.size w w':=by
 refine Ab (fn:=Tryz.f123) (c:=YG) (n:=16) ?_
 have K1:=Wk.start w
 refine Bw 1 ig [⟨w.heap.size,0,[.int .i64 p0a,.int .i64 p0b],29,true⟩] K1 [] fun w1 K2=>?_
 refine Aj K2 [(0,0,0),(4,0,0),(9,0,1)] [⟨1,[(3,.agg ⟨[.int .i64 p0a,.int .i64 p0b]⟩)],.bool (C4 p0a p0b),true⟩,⟨10,[(12,.int .i64 p0b)],.int .i64 (Int.tmod 1000000 p0b),((cond (C4 p0a p0b) (decide (0≤p0a)) (false))) && (true)⟩] K2.G (fun sp hsp=>?_) fun w2 E2 K3=>?_
 ·simp only [List.mem_cons,List.not_mem_nil,or_false] at hsp
  rcases hsp with rfl | rfl
  ·exact AR 56 [.tmp 3] [.agg ⟨[.int .i64 p0a,.int .i64 p0b]⟩] (fun _=>by kernel_rfl) fun hc u hu=>AP hu (Es p0a p0b u)
  ·exact Av fun hc E u _=>Lf (T:=3) (T':=3) (x:=.const (.int .i64 1000000)) (y:=.tmp 12) (by kernel_rfl) (by kernel_rfl) (by kernel_rfl) (by simp [C4] at hc; omega)
 refine AC oQ K3 [] fun w3 K4=>?_
 exact AM K4 (0,0) (.bool (cond (cond (C4 p0a p0b) (decide (0≤p0a)) (false)) (Int.tmod 1000000 p0b == 0) (false))) (by unfold Dd; rfl)
def Fo (p0a:Int) (p0b:Int):Bool:=cond (Dd p0a p0b) (decide (0 < p0a)) (false)
noncomputable def YH:Code:=Tryz.f82.body.getD .skip
def ii:List Item:=Ac 1 ([.code YH])
def oR:List Item:=AB 60 (AO ii)
theorem Mf (p0a:Int) (p0b:Int) (w:World):Calls Tryz.prog 82 ([.agg ⟨[.int .i64 p0a,.int .i64 p0b]⟩]:List Value).toArray w fun e w'=>e=.returned (.bool (Fo p0a p0b))∧Below w.heap.size w w':=by
 refine Ab (fn:=Tryz.f82) (c:=YH) (n:=10) ?_
 have K1:=Wk.start w
 refine Bw 1 ii [⟨w.heap.size,0,[.int .i64 p0a,.int .i64 p0b],29,true⟩] K1 [] fun w1 K2=>?_
 refine Aj K2 [(0,0,0),(4,0,0)] [⟨1,[(3,.agg ⟨[.int .i64 p0a,.int .i64 p0b]⟩)],.bool (Dd p0a p0b),true⟩] K2.G (fun sp hsp=>?_) fun w2 E2 K3=>?_
 ·rw [List.mem_singleton.1 hsp]
  exact AR 123 [.tmp 3] [.agg ⟨[.int .i64 p0a,.int .i64 p0b]⟩] (fun _=>by kernel_rfl) fun hc u hu=>AP hu (H9 p0a p0b u)
 refine AC oR K3 [] fun w3 K4=>?_
 exact AM K4 (0,0) (.bool (cond (Dd p0a p0b) (decide (0 < p0a)) (false))) (by unfold Fo; rfl)
def IA (p0b:Int):Bool:=cond (decide (0 < p0b)) (Int.tmod 100 p0b == 0) (false)
noncomputable def YI:Code:=Tryz.f83.body.getD .skip
def iq:List Item:=Ac 1 ([.code YI])
def oT:List Item:=AB 60 (AO iq)
theorem Rl (p0a:Int) (p0b:Int) (w:World):Calls Tryz.prog 83 ([.agg ⟨[.int .i64 p0a,.int .i64 p0b]⟩]:List Value).toArray w fun e w'=>e=.returned (.bool (IA p0b))∧Below w.heap.size w w':=by
 refine Ab (fn:=Tryz.f83) (c:=YI) (n:=12) ?_
 have K1:=Wk.start w
 refine Bw 1 iq [⟨w.heap.size,0,[.int .i64 p0a,.int .i64 p0b],29,true⟩] K1 [] fun w1 K2=>?_
 refine Aj K2 [(1,0,1),(5,0,1)] [⟨6,[(8,.int .i64 p0b)],.int .i64 (Int.tmod 100 p0b),((decide (0 < p0b))) && (true)⟩] K2.G (fun sp hsp=>?_) fun w2 E2 K3=>?_
 ·rw [List.mem_singleton.1 hsp]
  exact Av fun hc E u _=>Lf (T:=3) (T':=3) (x:=.const (.int .i64 100)) (y:=.tmp 8) (by kernel_rfl) (by kernel_rfl) (by kernel_rfl) (by simp at hc; omega)
 refine AC oT K3 [] fun w3 K4=>?_
 exact AM K4 (0,0) (.bool (cond (decide (0 < p0b)) (Int.tmod 100 p0b == 0) (false))) (by unfold IA; rfl)
def DQ (p0a:Bool) (p0ba:Int) (p0bb:Int) (p0bc:Int):Bool:=cond (p0a) ((p0ba == 0) && ((p0bb == 0) && (p0bc == 0))) (Dw p0ba p0bb p0bc)
noncomputable def Xm:Code:=Tryz.f77.body.getD .skip
def Yx:List Item:=AB 60 ([.code Xm])
def fe:List Item:=Ac 2 (AG Yx)
def nH:List Item:=AB 60 (AO fe)
def fd:List Item:=AB 60 (AL Yx)
def nG:List Item:=AB 60 (AF fd)
theorem F7 (p0a:Bool) (p0ba:Int) (p0bb:Int) (p0bc:Int) (w:World):Calls Tryz.prog 77 ([.agg ⟨[.bool p0a,.int .i64 p0ba,.int .i64 p0bb,.int .i64 p0bc]⟩]:List Value).toArray w fun e w'=>e=.returned (.bool (DQ p0a p0ba p0bb p0bc))∧Below w.heap.size w w':=by
 refine Ab (fn:=Tryz.f77) (c:=Xm) (n:=12) ?_
 have K1:=Wk.start w
 refine Bv Yx [⟨w.heap.size,0,[.bool p0a,.int .i64 p0ba,.int .i64 p0bb,.int .i64 p0bc],26,true⟩] K1 [(0,0)] fun w1 K2=>?_
 refine AK (p0a) (fun c2=>?_) (fun c2=>?_)
 ·refine Ag 2 fe K2 [] fun w3 K3=>?_
  refine Aj K3 [(1,0,1)] [⟨3,[(6,.agg ⟨[.int .i64 p0ba,.int .i64 p0bb,.int .i64 p0bc]⟩),(7,.agg ⟨[.int .i64 0,.int .i64 0,.int .i64 0]⟩)],.bool ((p0ba == 0) && ((p0bb == 0) && (p0bc == 0))),true⟩] K3.G (fun sp hsp=>?_) fun w4 E4 K4=>?_
  ·rw [List.mem_singleton.1 hsp]
   exact Av fun _ E u _=>EC (k:=.eql) (T:=24) (a:=.agg ⟨[.int .i64 p0ba,.int .i64 p0bb,.int .i64 p0bc]⟩) (b:=.agg ⟨[.int .i64 0,.int .i64 0,.int .i64 0]⟩) (Gj u p0ba p0bb p0bc 0 0 0)
  refine AC nH K4 [] fun w5 K5=>?_
  exact AM K5 (0,0) (.bool ((p0ba == 0) && ((p0bb == 0) && (p0bc == 0)))) (by unfold DQ; rw [c2] <;> rfl)
 ·refine AC fd K2 [(0,1)] fun w6 K6=>?_
  refine Ak K6 (HL p0ba p0bb p0bc w6) fun w7 K7=>?_
  refine AC nG K7 [] fun w8 K8=>?_
  exact AM K8 (0,0) (.bool (Dw p0ba p0bb p0bc)) (by unfold DQ; rw [c2] <;> rfl)
def CP (p0:Int):Int:=cond (p0 == 1) (0) (cond (p0 == 2) (0) (cond (p0 == 3) (0) (cond (p0 == 20) (0) (cond (p0 == 21) (0) (cond (p0 == 4) (1) (cond (p0 == 16) (1) (cond (p0 == 17) (1) (cond (p0 == 19) (1) (cond (p0 == 5) (2) (cond (p0 == 6) (2) (cond (p0 == 7) (2) (cond (p0 == 8) (2) (cond (p0 == 9) (2) (cond (p0 == 10) (2) (cond (p0 == 11) (2) (cond (p0 == 12) (2) (cond (p0 == 13) (2) (cond (p0 == 14) (2) (cond (p0 == 15) (2) (cond (p0 == 18) (3) (-1)))))))))))))))))))))
noncomputable def YC:Code:=Tryz.f148.body.getD .skip
def Zo:List Item:=AB 60 ([.code YC])
def iX:List Item:=AB 60 (AG Zo)
def oJ:List Item:=AB 60 (AG iX)
def Zn:List Item:=AB 60 (AL Zo)
def iW:List Item:=AB 60 (AG Zn)
def oI:List Item:=AB 60 (AG iW)
def Zm:List Item:=AB 60 (AL Zn)
def iV:List Item:=AB 60 (AG Zm)
def oH:List Item:=AB 60 (AG iV)
def Zl:List Item:=AB 60 (AL Zm)
def cu:List Item:=AB 60 (AG Zl)
def li:List Item:=AB 60 (AG cu)
def UF:List Item:=AB 60 (AL Zl)
def lh:List Item:=AB 60 (AG UF)
def UE:List Item:=AB 60 (AL UF)
def ct:List Item:=AB 60 (AG UE)
def lg:List Item:=AB 60 (AG ct)
def UD:List Item:=AB 60 (AL UE)
def cr:List Item:=AB 60 (AG UD)
def lf:List Item:=AB 60 (AG cr)
def UC:List Item:=AB 60 (AL UD)
def co:List Item:=AB 60 (AG UC)
def ld:List Item:=AB 60 (AG co)
def UB:List Item:=AB 60 (AL UC)
def lc:List Item:=AB 60 (AG UB)
def UA:List Item:=AB 60 (AL UB)
def cn:List Item:=AB 60 (AG UA)
def lb:List Item:=AB 60 (AG cn)
def T9:List Item:=AB 60 (AL UA)
def cm:List Item:=AB 60 (AG T9)
def la:List Item:=AB 60 (AG cm)
def T8:List Item:=AB 60 (AL T9)
def cl:List Item:=AB 60 (AG T8)
def lZ:List Item:=AB 60 (AG cl)
def T7:List Item:=AB 60 (AL T8)
def ck:List Item:=AB 60 (AG T7)
def lY:List Item:=AB 60 (AG ck)
def T6:List Item:=AB 60 (AL T7)
def cj:List Item:=AB 60 (AG T6)
def lX:List Item:=AB 60 (AG cj)
def T5:List Item:=AB 60 (AL T6)
def ci:List Item:=AB 60 (AG T5)
def lW:List Item:=AB 60 (AG ci)
def T4:List Item:=AB 60 (AL T5)
def ch:List Item:=AB 60 (AG T4)
def lV:List Item:=AB 60 (AG ch)
def T3:List Item:=AB 60 (AL T4)
def cg:List Item:=AB 60 (AG T3)
def lU:List Item:=AB 60 (AG cg)
def T0:List Item:=AB 60 (AL T3)
def cf:List Item:=AB 60 (AG T0)
def lT:List Item:=AB 60 (AG cf)
def Tz:List Item:=AB 60 (AL T0)
def ce:List Item:=AB 60 (AG Tz)
def lS:List Item:=AB 60 (AG ce)
def Ty:List Item:=AB 60 (AL Tz)
def lR:List Item:=AB 60 (AG Ty)
def Tx:List Item:=AB 60 (AL Ty)
def lQ:List Item:=AB 60 (AG Tx)
def lP:List Item:=AB 60 (AL Tx)
theorem ai (p0:Int) (w:World):Calls Tryz.prog 148 ([.int .i64 p0]:List Value).toArray w fun e w'=>e=.returned (.int .i64 (CP p0))∧Below w.heap.size w w':=by
 refine Ab (fn:=Tryz.f148) (c:=YC) (n:=29) ?_
 have K1:=Wk.start w
 refine AC Zo K1 [] fun w1 K2=>?_
 refine AK (p0 == 1) (fun c2=>?_) (fun c2=>?_)
 ·refine AC iX K2 [] fun w3 K3=>?_
  refine AK (p0 == 1) (fun _=>?_) (fun h=>nomatch h.symm.trans c2)
  refine AC oJ K3 [] fun w5 K4=>?_
  exact AM K4 (0,0) (.int .i64 0) (by unfold CP; rw [c2] <;> rfl)
 ·refine AC Zn K2 [] fun w6 K5=>?_
  refine AK (p0 == 2) (fun c7=>?_) (fun c7=>?_)
  ·refine AC iW K5 [] fun w8 K6=>?_
   refine AK (p0 == 2) (fun _=>?_) (fun h=>nomatch h.symm.trans c7)
   refine AC oI K6 [] fun w10 K7=>?_
   exact AM K7 (0,0) (.int .i64 0) (by unfold CP; rw [c2,c7] <;> rfl)
  ·refine AC Zm K5 [] fun w11 K8=>?_
   refine AK (p0 == 3) (fun c12=>?_) (fun c12=>?_)
   ·refine AC iV K8 [] fun w13 K9=>?_
    refine AK (p0 == 3) (fun _=>?_) (fun h=>nomatch h.symm.trans c12)
    refine AC oH K9 [] fun w15 K10=>?_
    exact AM K10 (0,0) (.int .i64 0) (by unfold CP; rw [c2,c7,c12] <;> rfl)
   ·refine AC Zl K8 [] fun w16 K11=>?_
    refine AK (p0 == 20) (fun c17=>?_) (fun c17=>?_)
    ·refine AC cu K11 [] fun w18 K12=>?_
     refine AK (p0 == 20) (fun _=>?_) (fun h=>nomatch h.symm.trans c17)
     refine AC li K12 [] fun w20 K13=>?_
     exact AM K13 (0,0) (.int .i64 0) (by unfold CP; rw [c2,c7,c12,c17] <;> rfl)
    ·refine AC UF K11 [] fun w21 K14=>?_
     refine AK (p0 == 21) (fun c22=>?_) (fun c22=>?_)
     ·refine AC lh K14 [] fun w23 K15=>?_
      exact AM K15 (0,0) (.int .i64 0) (by unfold CP; rw [c2,c7,c12,c17,c22] <;> rfl)
     ·refine AC UE K14 [] fun w24 K16=>?_
      refine AK (p0 == 4) (fun c25=>?_) (fun c25=>?_)
      ·refine AC ct K16 [] fun w26 K17=>?_
       refine AK (p0 == 4) (fun _=>?_) (fun h=>nomatch h.symm.trans c25)
       refine AC lg K17 [] fun w28 K18=>?_
       exact AM K18 (0,0) (.int .i64 1) (by unfold CP; rw [c2,c7,c12,c17,c22,c25] <;> rfl)
      ·refine AC UD K16 [] fun w29 K19=>?_
       refine AK (p0 == 16) (fun c30=>?_) (fun c30=>?_)
       ·refine AC cr K19 [] fun w31 K20=>?_
        refine AK (p0 == 16) (fun _=>?_) (fun h=>nomatch h.symm.trans c30)
        refine AC lf K20 [] fun w33 K21=>?_
        exact AM K21 (0,0) (.int .i64 1) (by unfold CP; rw [c2,c7,c12,c17,c22,c25,c30] <;> rfl)
       ·refine AC UC K19 [] fun w34 K22=>?_
        refine AK (p0 == 17) (fun c35=>?_) (fun c35=>?_)
        ·refine AC co K22 [] fun w36 K23=>?_
         refine AK (p0 == 17) (fun _=>?_) (fun h=>nomatch h.symm.trans c35)
         refine AC ld K23 [] fun w38 K24=>?_
         exact AM K24 (0,0) (.int .i64 1) (by unfold CP; rw [c2,c7,c12,c17,c22,c25,c30,c35] <;> rfl)
        ·refine AC UB K22 [] fun w39 K25=>?_
         refine AK (p0 == 19) (fun c40=>?_) (fun c40=>?_)
         ·refine AC lc K25 [] fun w41 K26=>?_
          exact AM K26 (0,0) (.int .i64 1) (by unfold CP; rw [c2,c7,c12,c17,c22,c25,c30,c35,c40] <;> rfl)
         ·refine AC UA K25 [] fun w42 K27=>?_
          refine AK (p0 == 5) (fun c43=>?_) (fun c43=>?_)
          ·refine AC cn K27 [] fun w44 K28=>?_
           refine AK (p0 == 5) (fun _=>?_) (fun h=>nomatch h.symm.trans c43)
           refine AC lb K28 [] fun w46 K29=>?_
           exact AM K29 (0,0) (.int .i64 2) (by unfold CP; rw [c2,c7,c12,c17,c22,c25,c30,c35,c40,c43] <;> rfl)
          ·refine AC T9 K27 [] fun w47 K30=>?_
           refine AK (p0 == 6) (fun c48=>?_) (fun c48=>?_)
           ·refine AC cm K30 [] fun w49 K31=>?_
            refine AK (p0 == 6) (fun _=>?_) (fun h=>nomatch h.symm.trans c48)
            refine AC la K31 [] fun w51 K32=>?_
            exact AM K32 (0,0) (.int .i64 2) (by unfold CP; rw [c2,c7,c12,c17,c22,c25,c30,c35,c40,c43,c48] <;> rfl)
           ·refine AC T8 K30 [] fun w52 K33=>?_
            refine AK (p0 == 7) (fun c53=>?_) (fun c53=>?_)
            ·refine AC cl K33 [] fun w54 K34=>?_
             refine AK (p0 == 7) (fun _=>?_) (fun h=>nomatch h.symm.trans c53)
             refine AC lZ K34 [] fun w56 K35=>?_
             exact AM K35 (0,0) (.int .i64 2) (by unfold CP; rw [c2,c7,c12,c17,c22,c25,c30,c35,c40,c43,c48,c53] <;> rfl)
            ·refine AC T7 K33 [] fun w57 K36=>?_
             refine AK (p0 == 8) (fun c58=>?_) (fun c58=>?_)
             ·refine AC ck K36 [] fun w59 K37=>?_
              refine AK (p0 == 8) (fun _=>?_) (fun h=>nomatch h.symm.trans c58)
              refine AC lY K37 [] fun w61 K38=>?_
              exact AM K38 (0,0) (.int .i64 2) (by unfold CP; rw [c2,c7,c12,c17,c22,c25,c30,c35,c40,c43,c48,c53,c58] <;> rfl)
             ·refine AC T6 K36 [] fun w62 K39=>?_
              refine AK (p0 == 9) (fun c63=>?_) (fun c63=>?_)
              ·refine AC cj K39 [] fun w64 K40=>?_
               refine AK (p0 == 9) (fun _=>?_) (fun h=>nomatch h.symm.trans c63)
               refine AC lX K40 [] fun w66 K41=>?_
               exact AM K41 (0,0) (.int .i64 2) (by unfold CP; rw [c2,c7,c12,c17,c22,c25,c30,c35,c40,c43,c48,c53,c58,c63] <;> rfl)
              ·refine AC T5 K39 [] fun w67 K42=>?_
               refine AK (p0 == 10) (fun c68=>?_) (fun c68=>?_)
               ·refine AC ci K42 [] fun w69 K43=>?_
                refine AK (p0 == 10) (fun _=>?_) (fun h=>nomatch h.symm.trans c68)
                refine AC lW K43 [] fun w71 K44=>?_
                exact AM K44 (0,0) (.int .i64 2) (by unfold CP; rw [c2,c7,c12,c17,c22,c25,c30,c35,c40,c43,c48,c53,c58,c63,c68] <;> rfl)
               ·refine AC T4 K42 [] fun w72 K45=>?_
                refine AK (p0 == 11) (fun c73=>?_) (fun c73=>?_)
                ·refine AC ch K45 [] fun w74 K46=>?_
                 refine AK (p0 == 11) (fun _=>?_) (fun h=>nomatch h.symm.trans c73)
                 refine AC lV K46 [] fun w76 K47=>?_
                 exact AM K47 (0,0) (.int .i64 2) (by unfold CP; rw [c2,c7,c12,c17,c22,c25,c30,c35,c40,c43,c48,c53,c58,c63,c68,c73] <;> rfl)
                ·refine AC T3 K45 [] fun w77 K48=>?_
                 refine AK (p0 == 12) (fun c78=>?_) (fun c78=>?_)
                 ·refine AC cg K48 [] fun w79 K49=>?_
                  refine AK (p0 == 12) (fun _=>?_) (fun h=>nomatch h.symm.trans c78)
                  refine AC lU K49 [] fun w81 K50=>?_
                  exact AM K50 (0,0) (.int .i64 2) (by unfold CP; rw [c2,c7,c12,c17,c22,c25,c30,c35,c40,c43,c48,c53,c58,c63,c68,c73,c78] <;> rfl)
                 ·refine AC T0 K48 [] fun w82 K51=>?_
                  refine AK (p0 == 13) (fun c83=>?_) (fun c83=>?_)
                  ·refine AC cf K51 [] fun w84 K52=>?_
                   refine AK (p0 == 13) (fun _=>?_) (fun h=>nomatch h.symm.trans c83)
                   refine AC lT K52 [] fun w86 K53=>?_
                   exact AM K53 (0,0) (.int .i64 2) (by unfold CP; rw [c2,c7,c12,c17,c22,c25,c30,c35,c40,c43,c48,c53,c58,c63,c68,c73,c78,c83] <;> rfl)
                  ·refine AC Tz K51 [] fun w87 K54=>?_
                   refine AK (p0 == 14) (fun c88=>?_) (fun c88=>?_)
                   ·refine AC ce K54 [] fun w89 K55=>?_
                    refine AK (p0 == 14) (fun _=>?_) (fun h=>nomatch h.symm.trans c88)
                    refine AC lS K55 [] fun w91 K56=>?_
                    exact AM K56 (0,0) (.int .i64 2) (by unfold CP; rw [c2,c7,c12,c17,c22,c25,c30,c35,c40,c43,c48,c53,c58,c63,c68,c73,c78,c83,c88] <;> rfl)
                   ·refine AC Ty K54 [] fun w92 K57=>?_
                    refine AK (p0 == 15) (fun c93=>?_) (fun c93=>?_)
                    ·refine AC lR K57 [] fun w94 K58=>?_
                     exact AM K58 (0,0) (.int .i64 2) (by unfold CP; rw [c2,c7,c12,c17,c22,c25,c30,c35,c40,c43,c48,c53,c58,c63,c68,c73,c78,c83,c88,c93] <;> rfl)
                    ·refine AC Tx K57 [] fun w95 K59=>?_
                     refine AK (p0 == 18) (fun c96=>?_) (fun c96=>?_)
                     ·refine AC lQ K59 [] fun w97 K60=>?_
                      exact AM K60 (0,0) (.int .i64 3) (by unfold CP; rw [c2,c7,c12,c17,c22,c25,c30,c35,c40,c43,c48,c53,c58,c63,c68,c73,c78,c83,c88,c93,c96] <;> rfl)
                     ·refine AC lP K59 [] fun w98 K61=>?_
                      exact AM K61 (0,0) (.int .i64 (-1)) (by unfold CP; rw [c2,c7,c12,c17,c22,c25,c30,c35,c40,c43,c48,c53,c58,c63,c68,c73,c78,c83,c88,c93,c96] <;> rfl)
def CW (p0a:Int) (p0ba:Int) (p0bb:Int) (p0ca:Int) (p0cb:Int) (p0cc:Int) (p0d:List UInt8) (p0e:Int) (p0f:Int):Bool:=cond (p0a == 1) (cond (cond (cond (cond (Dd p0ba p0bb) (Dw p0ca p0cb p0cc) (false)) (decide (p0d=[])) (false)) (p0e == 0) (false)) (p0f == 0) (false)) (cond (p0a == 2) (cond (cond (cond (cond ((p0ba == 0) && (p0bb == 0)) ((p0ca == 0) && ((p0cb == 0) && (p0cc == 0))) (false)) (decide (p0d=[])) (false)) (cond (p0e == 0) (true) (p0e == 1)) (false)) (p0f == 0) (false)) (cond (p0a == 3) (cond (cond (cond (cond ((p0ba == 0) && (p0bb == 0)) ((p0ca == 0) && ((p0cb == 0) && (p0cc == 0))) (false)) (Tk.isName p0d) (false)) (p0e == 0) (false)) (p0f == 0) (false)) (cond (p0a == 4) (cond (cond (cond (cond ((p0ba == 0) && (p0bb == 0)) ((p0ca == 0) && ((p0cb == 0) && (p0cc == 0))) (false)) (Tk.isName p0d) (false)) (p0e == 0) (false)) (p0f == 0) (false)) (cond (p0a == 19) (cond (cond (cond (cond (Fo p0ba p0bb) (Dw p0ca p0cb p0cc) (false)) (decide (p0d=[])) (false)) (p0e == 0) (false)) (GL p0f) (false)) (cond (p0a == 20) (cond (cond (cond (cond ((p0ba == 0) && (p0bb == 0)) ((p0ca == 0) && ((p0cb == 0) && (p0cc == 0))) (false)) (Tk.isName p0d) (false)) (cond (decide (1≤p0e)) (decide (p0e≤120)) (false)) (false)) (p0f == 0) (false)) (cond (p0a == 21) (cond (cond (cond (cond ((p0ba == 0) && (p0bb == 0)) ((p0ca == 0) && ((p0cb == 0) && (p0cc == 0))) (false)) (Tk.isName p0d) (false)) (cond (decide (1≤p0e)) (decide (p0e≤120)) (false)) (false)) (p0f == 0) (false)) (cond (cond (cond (cond ((p0ba == 0) && (p0bb == 0)) ((p0ca == 0) && ((p0cb == 0) && (p0cc == 0))) (false)) (decide (p0d=[])) (false)) (p0e == 0) (false)) (p0f == 0) (false))))))))
noncomputable def Xn:Code:=Tryz.f149.body.getD .skip
def fo:List Item:=Ac 1 ([.code Xn])
def fm:List Item:=Ac 2 (AO fo)
def fl:List Item:=Ac 3 (AO fm)
def Y0:List Item:=AB 60 (AO fl)
def fk:List Item:=Ac 6 (AG Y0)
def fj:List Item:=Ac 18 (AO fk)
def nI:List Item:=AB 60 (AO fj)
def Yz:List Item:=AB 60 (AL Y0)
def fh:List Item:=Ac 8 (AG Yz)
def fg:List Item:=Ac 18 (AO fh)
def kX:List Item:=AB 60 (AO fg)
def Sv:List Item:=AB 60 (AL Yz)
def bd:List Item:=AB 60 (AG Sv)
def bc:List Item:=AB 60 (AG bd)
def bZ:List Item:=Ac 18 (AF bc)
def kW:List Item:=AB 60 (AO bZ)
def Su:List Item:=AB 60 (AL Sv)
def bY:List Item:=AB 60 (AG Su)
def bX:List Item:=Ac 18 (AF bY)
def kV:List Item:=AB 60 (AO bX)
def Ss:List Item:=AB 60 (AL Su)
def bW:List Item:=Ac 13 (AG Ss)
def bV:List Item:=Ac 18 (AO bW)
def kU:List Item:=AB 60 (AO bV)
def Sr:List Item:=AB 60 (AL Ss)
def bU:List Item:=AB 60 (AG Sr)
def bT:List Item:=AB 60 (AG bU)
def bS:List Item:=Ac 17 (AF bT)
def bR:List Item:=Ac 18 (AO bS)
def kT:List Item:=AB 60 (AO bR)
def Sq:List Item:=AB 60 (AL Sr)
def bQ:List Item:=AB 60 (AG Sq)
def bP:List Item:=Ac 17 (AF bQ)
def bO:List Item:=Ac 18 (AO bP)
def kS:List Item:=AB 60 (AO bO)
def bN:List Item:=Ac 18 (AL Sq)
def kR:List Item:=AB 60 (AO bN)
theorem Lt (p0a:Int) (p0ba:Int) (p0bb:Int) (p0ca:Int) (p0cb:Int) (p0cc:Int) (p0d:List UInt8) (p0e:Int) (p0f:Int) (p0gA:Option Addr) (p0gn:Nat) (p0gc:Nat) (w:World) (hs:p0d.length≤4294967296):Calls Tryz.prog 149 ([.agg ⟨[.int .i64 p0a,.int .i64 p0ba,.int .i64 p0bb,.int .i64 p0ca,.int .i64 p0cb,.int .i64 p0cc,.string ⟨⟨p0d⟩⟩,.int .i64 p0e,.int .i64 p0f,.slice p0gA p0gn p0gc]⟩]:List Value).toArray w fun e w'=>e=.returned (.bool (CW p0a p0ba p0bb p0ca p0cb p0cc p0d p0e p0f))∧Below w.heap.size w w':=by
 refine Ab (fn:=Tryz.f149) (c:=Xn) (n:=89) ?_
 have K1:=Wk.start w
 refine Bw 1 fo [⟨w.heap.size,0,[.int .i64 p0a,.int .i64 p0ba,.int .i64 p0bb,.int .i64 p0ca,.int .i64 p0cb,.int .i64 p0cc,.string ⟨⟨p0d⟩⟩,.int .i64 p0e,.int .i64 p0f,.slice p0gA p0gn p0gc],32,true⟩] K1 [] fun w1 K2=>?_
 refine Aj K2 [(1,0,1)] [⟨3,[(9,.agg ⟨[.int .i64 p0ba,.int .i64 p0bb]⟩),(10,.agg ⟨[.int .i64 0,.int .i64 0]⟩)],.bool ((p0ba == 0) && (p0bb == 0)),true⟩] K2.G (fun sp hsp=>?_) fun w2 E2 K3=>?_
 ·rw [List.mem_singleton.1 hsp]
  exact Av fun _ E u _=>EC (k:=.eql) (T:=29) (a:=.agg ⟨[.int .i64 p0ba,.int .i64 p0bb]⟩) (b:=.agg ⟨[.int .i64 0,.int .i64 0]⟩) (Eg u p0ba p0bb 0 0)
 refine Ag 2 fm K3 [] fun w3 K4=>?_
 refine Aj K4 [(1,0,3)] [⟨3,[(13,.agg ⟨[.int .i64 p0ca,.int .i64 p0cb,.int .i64 p0cc]⟩),(14,.agg ⟨[.int .i64 0,.int .i64 0,.int .i64 0]⟩)],.bool ((p0ca == 0) && ((p0cb == 0) && (p0cc == 0))),true⟩] K4.G (fun sp hsp=>?_) fun w4 E4 K5=>?_
 ·rw [List.mem_singleton.1 hsp]
  exact Av fun _ E u _=>EC (k:=.eql) (T:=24) (a:=.agg ⟨[.int .i64 p0ca,.int .i64 p0cb,.int .i64 p0cc]⟩) (b:=.agg ⟨[.int .i64 0,.int .i64 0,.int .i64 0]⟩) (Gj u p0ca p0cb p0cc 0 0 0)
 refine Ag 3 fl K5 [] fun w5 K6=>?_
 refine Aj K6 [(1,0,6),(4,0,7),(7,0,8)] [⟨2,[(17,.string ⟨⟨p0d⟩⟩)],.bool (decide (p0d=[])),true⟩] K6.G (fun sp hsp=>?_) fun w6 E6 K7=>?_
 ·rw [List.mem_singleton.1 hsp]
  exact Av fun _ E u _=>GH (T:=9) (T':=9) (x:=.tmp 17) (y:=.const (.string ⟨⟨[]⟩⟩))
 refine AC Y0 K7 [(0,0)] fun w7 K8=>?_
 refine AK (p0a == 1) (fun c8=>?_) (fun c8=>?_)
 ·refine Ag 6 fk K8 [] fun w9 K9=>?_
  refine Aj K9 [(1,0,1),(4,0,3)] [⟨2,[(30,.agg ⟨[.int .i64 p0ba,.int .i64 p0bb]⟩)],.bool (Dd p0ba p0bb),true⟩,⟨5,[(33,.agg ⟨[.int .i64 p0ca,.int .i64 p0cb,.int .i64 p0cc]⟩)],.bool (Dw p0ca p0cb p0cc),true⟩] K9.G (fun sp hsp=>?_) fun w10 E10 K10=>?_
  ·simp only [List.mem_cons,List.not_mem_nil,or_false] at hsp
   rcases hsp with rfl | rfl
   ·exact AR 123 [.tmp 30] [.agg ⟨[.int .i64 p0ba,.int .i64 p0bb]⟩] (fun _=>by kernel_rfl) fun hc u hu=>AP hu (H9 p0ba p0bb u)
   ·exact AR 122 [.tmp 33] [.agg ⟨[.int .i64 p0ca,.int .i64 p0cb,.int .i64 p0cc]⟩] (fun _=>by kernel_rfl) fun hc u hu=>AP hu (HL p0ca p0cb p0cc u)
  refine Ag 18 fj K10 [] fun w11 K11=>?_
  refine Aj K11 [] [] K11.G (fun sp hsp=>by cases hsp) fun w12 E12 K12=>?_
  refine AC nI K12 [] fun w13 K13=>?_
  exact AM K13 (0,0) (.bool (cond (cond (cond (cond (Dd p0ba p0bb) (Dw p0ca p0cb p0cc) (false)) (decide (p0d=[])) (false)) (p0e == 0) (false)) (p0f == 0) (false))) (by unfold CW; rw [c8] <;> rfl)
 ·refine AC Yz K8 [] fun w14 K14=>?_
  refine AK (p0a == 2) (fun c15=>?_) (fun c15=>?_)
  ·refine Ag 8 fh K14 [] fun w16 K15=>?_
   refine Aj K15 [(1,0,7),(5,0,7)] [] K15.G (fun sp hsp=>by cases hsp) fun w17 E17 K16=>?_
   refine Ag 18 fg K16 [] fun w18 K17=>?_
   refine Aj K17 [] [] K17.G (fun sp hsp=>by cases hsp) fun w19 E19 K18=>?_
   refine AC kX K18 [] fun w20 K19=>?_
   exact AM K19 (0,0) (.bool (cond (cond (cond (cond ((p0ba == 0) && (p0bb == 0)) ((p0ca == 0) && ((p0cb == 0) && (p0cc == 0))) (false)) (decide (p0d=[])) (false)) (cond (p0e == 0) (true) (p0e == 1)) (false)) (p0f == 0) (false))) (by unfold CW; rw [c8,c15] <;> rfl)
  ·refine AC Sv K14 [] fun w21 K20=>?_
   refine AK (p0a == 3) (fun c22=>?_) (fun c22=>?_)
   ·refine AC bd K20 [] fun w23 K21=>?_
    refine AK (p0a == 3) (fun _=>?_) (fun h=>nomatch h.symm.trans c22)
    refine AC bc K21 [(0,6)] fun w25 K22=>?_
    refine Ak K22 (Ee p0d w25 (by assumption)) fun w26 K23=>?_
    refine Ag 18 bZ K23 [] fun w27 K24=>?_
    refine Aj K24 [] [] K24.G (fun sp hsp=>by cases hsp) fun w28 E28 K25=>?_
    refine AC kW K25 [] fun w29 K26=>?_
    exact AM K26 (0,0) (.bool (cond (cond (cond (cond ((p0ba == 0) && (p0bb == 0)) ((p0ca == 0) && ((p0cb == 0) && (p0cc == 0))) (false)) (Tk.isName p0d) (false)) (p0e == 0) (false)) (p0f == 0) (false))) (by unfold CW; rw [c8,c15,c22] <;> rfl)
   ·refine AC Su K20 [] fun w30 K27=>?_
    refine AK (p0a == 4) (fun c31=>?_) (fun c31=>?_)
    ·refine AC bY K27 [(0,6)] fun w32 K28=>?_
     refine Ak K28 (Ee p0d w32 (by assumption)) fun w33 K29=>?_
     refine Ag 18 bX K29 [] fun w34 K30=>?_
     refine Aj K30 [] [] K30.G (fun sp hsp=>by cases hsp) fun w35 E35 K31=>?_
     refine AC kV K31 [] fun w36 K32=>?_
     exact AM K32 (0,0) (.bool (cond (cond (cond (cond ((p0ba == 0) && (p0bb == 0)) ((p0ca == 0) && ((p0cb == 0) && (p0cc == 0))) (false)) (Tk.isName p0d) (false)) (p0e == 0) (false)) (p0f == 0) (false))) (by unfold CW; rw [c8,c15,c22,c31] <;> rfl)
    ·refine AC Ss K27 [] fun w37 K33=>?_
     refine AK (p0a == 19) (fun c38=>?_) (fun c38=>?_)
     ·refine Ag 13 bW K33 [] fun w39 K34=>?_
      refine Aj K34 [(1,0,1),(4,0,3),(7,0,8)] [⟨2,[(54,.agg ⟨[.int .i64 p0ba,.int .i64 p0bb]⟩)],.bool (Fo p0ba p0bb),true⟩,⟨5,[(57,.agg ⟨[.int .i64 p0ca,.int .i64 p0cb,.int .i64 p0cc]⟩)],.bool (Dw p0ca p0cb p0cc),true⟩,⟨8,[(60,.int .i64 p0f)],.bool (GL p0f),true⟩] K34.G (fun sp hsp=>?_) fun w40 E40 K35=>?_
      ·simp only [List.mem_cons,List.not_mem_nil,or_false] at hsp
       rcases hsp with rfl | rfl | rfl
       ·exact AR 82 [.tmp 54] [.agg ⟨[.int .i64 p0ba,.int .i64 p0bb]⟩] (fun _=>by kernel_rfl) fun hc u hu=>AP hu (Mf p0ba p0bb u)
       ·exact AR 122 [.tmp 57] [.agg ⟨[.int .i64 p0ca,.int .i64 p0cb,.int .i64 p0cc]⟩] (fun _=>by kernel_rfl) fun hc u hu=>AP hu (HL p0ca p0cb p0cc u)
       ·exact AR 81 [.tmp 60] [.int .i64 p0f] (fun _=>by kernel_rfl) fun hc u hu=>AP hu (Mi p0f u)
      refine Ag 18 bV K35 [] fun w41 K36=>?_
      refine Aj K36 [] [] K36.G (fun sp hsp=>by cases hsp) fun w42 E42 K37=>?_
      refine AC kU K37 [] fun w43 K38=>?_
      exact AM K38 (0,0) (.bool (cond (cond (cond (cond (Fo p0ba p0bb) (Dw p0ca p0cb p0cc) (false)) (decide (p0d=[])) (false)) (p0e == 0) (false)) (GL p0f) (false))) (by unfold CW; rw [c8,c15,c22,c31,c38] <;> rfl)
     ·refine AC Sr K33 [] fun w44 K39=>?_
      refine AK (p0a == 20) (fun c45=>?_) (fun c45=>?_)
      ·refine AC bU K39 [] fun w46 K40=>?_
       refine AK (p0a == 20) (fun _=>?_) (fun h=>nomatch h.symm.trans c45)
       refine AC bT K40 [(0,6)] fun w48 K41=>?_
       refine Ak K41 (Ee p0d w48 (by assumption)) fun w49 K42=>?_
       refine Ag 17 bS K42 [] fun w50 K43=>?_
       refine Aj K43 [(1,0,7),(5,0,7)] [] K43.G (fun sp hsp=>by cases hsp) fun w51 E51 K44=>?_
       refine Ag 18 bR K44 [] fun w52 K45=>?_
       refine Aj K45 [] [] K45.G (fun sp hsp=>by cases hsp) fun w53 E53 K46=>?_
       refine AC kT K46 [] fun w54 K47=>?_
       exact AM K47 (0,0) (.bool (cond (cond (cond (cond ((p0ba == 0) && (p0bb == 0)) ((p0ca == 0) && ((p0cb == 0) && (p0cc == 0))) (false)) (Tk.isName p0d) (false)) (cond (decide (1≤p0e)) (decide (p0e≤120)) (false)) (false)) (p0f == 0) (false))) (by unfold CW; rw [c8,c15,c22,c31,c38,c45] <;> rfl)
      ·refine AC Sq K39 [] fun w55 K48=>?_
       refine AK (p0a == 21) (fun c56=>?_) (fun c56=>?_)
       ·refine AC bQ K48 [(0,6)] fun w57 K49=>?_
        refine Ak K49 (Ee p0d w57 (by assumption)) fun w58 K50=>?_
        refine Ag 17 bP K50 [] fun w59 K51=>?_
        refine Aj K51 [(1,0,7),(5,0,7)] [] K51.G (fun sp hsp=>by cases hsp) fun w60 E60 K52=>?_
        refine Ag 18 bO K52 [] fun w61 K53=>?_
        refine Aj K53 [] [] K53.G (fun sp hsp=>by cases hsp) fun w62 E62 K54=>?_
        refine AC kS K54 [] fun w63 K55=>?_
        exact AM K55 (0,0) (.bool (cond (cond (cond (cond ((p0ba == 0) && (p0bb == 0)) ((p0ca == 0) && ((p0cb == 0) && (p0cc == 0))) (false)) (Tk.isName p0d) (false)) (cond (decide (1≤p0e)) (decide (p0e≤120)) (false)) (false)) (p0f == 0) (false))) (by unfold CW; rw [c8,c15,c22,c31,c38,c45,c56] <;> rfl)
       ·refine Ag 18 bN K48 [] fun w64 K56=>?_
        refine Aj K56 [] [] K56.G (fun sp hsp=>by cases hsp) fun w65 E65 K57=>?_
        refine AC kR K57 [] fun w66 K58=>?_
        exact AM K58 (0,0) (.bool (cond (cond (cond (cond ((p0ba == 0) && (p0bb == 0)) ((p0ca == 0) && ((p0cb == 0) && (p0cc == 0))) (false)) (decide (p0d=[])) (false)) (p0e == 0) (false)) (p0f == 0) (false))) (by unfold CW; rw [c8,c15,c22,c31,c38,c45,c56] <;> rfl)
def Fn (p0a:Int) (p0ba:Int) (p0bb:Int) (p0ca:Int) (p0cb:Int) (p0cc:Int) (p0d:List UInt8) (p0e:Int) (p0f:Int) (p0gn:Nat):Bool:=cond (cond (cond (cond (cond (cond (p0a == 0) ((p0ba == 0) && (p0bb == 0)) (false)) ((p0ca == 0) && ((p0cb == 0) && (p0cc == 0))) (false)) (decide (p0d=[])) (false)) (p0e == 0) (false)) (p0f == 0) (false)) ((p0gn:Int) == 0) (false)
noncomputable def YF:Code:=Tryz.f76.body.getD .skip
def ie:List Item:=Ac 1 ([.code YF])
def oP:List Item:=AB 60 (AO ie)
theorem VV (p0a:Int) (p0ba:Int) (p0bb:Int) (p0ca:Int) (p0cb:Int) (p0cc:Int) (p0d:List UInt8) (p0e:Int) (p0f:Int) (p0gA:Option Addr) (p0gn:Nat) (p0gc:Nat) (w:World):Calls Tryz.prog 76 ([.agg ⟨[.int .i64 p0a,.int .i64 p0ba,.int .i64 p0bb,.int .i64 p0ca,.int .i64 p0cb,.int .i64 p0cc,.string ⟨⟨p0d⟩⟩,.int .i64 p0e,.int .i64 p0f,.slice p0gA p0gn p0gc]⟩]:List Value).toArray w fun e w'=>e=.returned (.bool (Fn p0a p0ba p0bb p0ca p0cb p0cc p0d p0e p0f p0gn))∧Below w.heap.size w w':=by
 refine Ab (fn:=Tryz.f76) (c:=YF) (n:=39) ?_
 have K1:=Wk.start w
 refine Bw 1 ie [⟨w.heap.size,0,[.int .i64 p0a,.int .i64 p0ba,.int .i64 p0bb,.int .i64 p0ca,.int .i64 p0cb,.int .i64 p0cc,.string ⟨⟨p0d⟩⟩,.int .i64 p0e,.int .i64 p0f,.slice p0gA p0gn p0gc],32,true⟩] K1 [] fun w1 K2=>?_
 refine Aj K2 [(1,0,0),(5,0,1),(11,0,3),(17,0,6),(22,0,7),(27,0,8),(32,0,9)] [⟨7,[(8,.agg ⟨[.int .i64 p0ba,.int .i64 p0bb]⟩),(9,.agg ⟨[.int .i64 0,.int .i64 0]⟩)],.bool ((p0ba == 0) && (p0bb == 0)),((p0a == 0)) && (true)⟩,⟨13,[(14,.agg ⟨[.int .i64 p0ca,.int .i64 p0cb,.int .i64 p0cc]⟩),(15,.agg ⟨[.int .i64 0,.int .i64 0,.int .i64 0]⟩)],.bool ((p0ca == 0) && ((p0cb == 0) && (p0cc == 0))),((cond (p0a == 0) ((p0ba == 0) && (p0bb == 0)) (false))) && (true)⟩,⟨18,[(20,.string ⟨⟨p0d⟩⟩)],.bool (decide (p0d=[])),((cond (cond (p0a == 0) ((p0ba == 0) && (p0bb == 0)) (false)) ((p0ca == 0) && ((p0cb == 0) && (p0cc == 0))) (false))) && (true)⟩] K2.G (fun sp hsp=>?_) fun w2 E2 K3=>?_
 ·simp only [List.mem_cons,List.not_mem_nil,or_false] at hsp
  rcases hsp with rfl | rfl | rfl
  ·exact Av fun _ E u _=>EC (k:=.eql) (T:=29) (a:=.agg ⟨[.int .i64 p0ba,.int .i64 p0bb]⟩) (b:=.agg ⟨[.int .i64 0,.int .i64 0]⟩) (Eg u p0ba p0bb 0 0)
  ·exact Av fun _ E u _=>EC (k:=.eql) (T:=24) (a:=.agg ⟨[.int .i64 p0ca,.int .i64 p0cb,.int .i64 p0cc]⟩) (b:=.agg ⟨[.int .i64 0,.int .i64 0,.int .i64 0]⟩) (Gj u p0ca p0cb p0cc 0 0 0)
  ·exact Av fun _ E u _=>GH (T:=9) (T':=9) (x:=.tmp 20) (y:=.const (.string ⟨⟨[]⟩⟩))
 refine AC oP K3 [] fun w3 K4=>?_
 exact AM K4 (0,0) (.bool (cond (cond (cond (cond (cond (cond (p0a == 0) ((p0ba == 0) && (p0bb == 0)) (false)) ((p0ca == 0) && ((p0cb == 0) && (p0cc == 0))) (false)) (decide (p0d=[])) (false)) (p0e == 0) (false)) (p0f == 0) (false)) ((p0gn:Int) == 0) (false))) (by unfold Fn; rfl)
end
end Go.Proofs.YtmcpjkcggfmcmaaGreatDoor

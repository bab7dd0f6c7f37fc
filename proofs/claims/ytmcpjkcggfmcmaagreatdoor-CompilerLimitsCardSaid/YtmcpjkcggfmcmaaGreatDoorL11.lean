/-
  Part 11 of a proof: contracts of functions.
-/
import Derived.Test.YtmcpjkcggfmcmaaGreatDoorL10
set_option linter.all false
namespace Go.Proofs.YtmcpjkcggfmcmaaGreatDoor
noncomputable section
open Go.RowKit
set_option maxRecDepth 100000
def Gv:List (Int×Int×Int)→Int→Bool
 | [],_=>true
 | e :: es,b=>cond (cond (cond (decide (e.1≤b)) true (decide (1000000 < e.1))) true (!(Dd e.2.1 e.2.2))) false (Gv es e.1)
def Ed (es:List (Int×Int×Int)):Bool:=cond (cond (decide ((es.length:Int) < 1)) true (decide (64 < (es.length:Int)))) false (Gv es (-1))
theorem Vx {es:List (Int×Int×Int)} {b:Int} (i:Nat) (e:Int×Int×Int) (hi:es[i]?=some e):Gv (es.drop i) b=cond (cond (cond (decide (e.1≤b)) true (decide (1000000 < e.1))) true (!(Dd e.2.1 e.2.2))) false (Gv (es.drop (i + 1)) e.1):=by
 have hl:i < es.length:=(List.getElem?_eq_some_iff.1 hi).1
 have he:es[i]=e:=(List.getElem?_eq_some_iff.1 hi).2
 rw [← List.getElem_cons_drop hl,Gv,he]
noncomputable def M2:Code:=Tryz.f79.body.getD .skip
def Sl:List Item:=Ac 1 [.code M2]
def Yy:List Item:=AB 60 (AO Sl)
def So:List Item:=AB 60 (AL Yy)
def PK:List Item:=AB 60 (A4 So)
def Sn:List Item:=AB (As Ae 90 (AG PK)) (AG PK)
def Sm:List Item:=Ac 7 (AF (AF Sn))
def ff:List Item:=AB 60 (AO Sm)
theorem LM (es:List (Int×Int×Int)) (A:Option Addr) (c:Nat) (w:World) (hrows:CU CG w 3 A (es.map Fc)):Calls Tryz.prog 79 ([.slice A es.length c]:List Value).toArray w fun e w'=>e=.returned (.bool (Ed es))∧Below w.heap.size w w':=by
 refine Ff (args:=[.slice A es.length c]) (fn:=Tryz.f79) (c:=M2) (n:=38) ?_
 refine Bi (Hi 1 90 [.code M2]) [.code M2] w.heap.size [] [] Sl [(0,.slice A es.length c)] w.heap.size [] (Bm w) fun w0 E0 hL0 hK0=>?_
 have B0:Below w.heap.size w w0:=CH hK0
 refine GJ ((Cs Sl).getD #[]) ⟨[],[],[]⟩ [(0,.slice A es.length c),(13,.bool (cond (decide ((es.length:Int) < 1)) true (decide (64 < (es.length:Int)))))] (by kernel_rfl) (by kernel_rfl) (by kernel_rfl) (fun e he=>by cases he) (fun sp hsp=>by cases hsp) (fun X=>by kernel_rfl) (by kernel_rfl) fun wa Ea ba=>?_
 have Ba:=B0.trans (ba.mono B0.size)
 refine Bi 60 (AO Sl) wa.heap.size [] [] Yy [(0,.slice A es.length c),(13,.bool (cond (decide ((es.length:Int) < 1)) true (decide (64 < (es.length:Int)))))] wa.heap.size [] (Bm wa) fun w1 E1 hL1 hK1=>?_
 have B1:Below w.heap.size w w1:=Ba.trans ((CH hK1).mono Ba.size)
 unfold Ed
 have hlen:cond (decide ((es.length:Int) < 1)) true (decide (64 < (es.length:Int)))=false→es.length≤64:=fun hq=>by
  by_cases hb:64 < (es.length:Int)
  ·by_cases hc:(es.length:Int) < 1
   ·omega
   ·rw [decide_eq_true hb,decide_eq_false hc] at hq; exact nomatch hq
  ·omega
 generalize cond (decide ((es.length:Int) < 1)) true (decide (64 < (es.length:Int)))=bad at hlen ⊢
 cases bad with
 | true=>
  refine DB true (fun _=>?_) (fun h=>nomatch h)
  exact D6 (fn:=Tryz.f79) 60 (.bool false) fun wz Bz=>⟨rfl,B1.trans (Bz.mono B1.size)⟩
 | false=>
 have hlen:=hlen rfl
 rw [show cond false false (Gv es (-1))=Gv es (-1) from rfl]
 refine DB false (fun h=>nomatch h) fun _=>?_
 refine Bi 60 (AL Yy) w1.heap.size [] [] So [(3,.int .i64 (-1)),(14,.slice A es.length c),(15,.int .i64 (es.length:Nat)),(16,.int .i64 ((0:Nat):Int))] w1.heap.size [] (Bm w1) fun w4 E4 hL4 hK4=>?_
 have B4:Below w.heap.size w w4:=B1.trans ((CH hK4).mono B1.size)
 refine Bj (by kernel_rfl) (fun E wx=>∃ (i:Nat) (b:Int) (E0:Nat→Value),i≤es.length∧E=CX E0 [(3,.int .i64 b),(14,.slice A es.length c),(15,.int .i64 (es.length:Nat)),(16,.int .i64 (i:Nat))]∧Gv es (-1)=Gv (es.drop i) b∧Below w.heap.size w wx)
  (fun E _=>es.length - AQ (E 16)) ⟨0,-1,E4,Nat.zero_le _,rfl,rfl,B4⟩ ?_
 rintro E wx ⟨i,b,E0,hi,rfl,hv,Bx⟩ hagain
 refine Bi 60 (A4 So) wx.heap.size [] [] PK [(3,.int .i64 b),(14,.slice A es.length c),(15,.int .i64 (es.length:Nat)),(16,.int .i64 (i:Nat)),(17,.bool (decide ((i:Int) < (es.length:Int))))] wx.heap.size [] (Bm wx) fun w5 E5 hL5 hK5=>?_
 have B5:=Bx.trans ((CH hK5).mono Bx.size)
 refine DB (decide ((i:Int) < (es.length:Int))) (fun hlt=>?_) (fun hlt=>?_)
 ·have hlt':i < es.length:=by have:=of_decide_eq_true hlt; omega
  obtain ⟨⟨k,n,d⟩,he⟩:∃ e,es[i]?=some e:=⟨_,List.getElem?_eq_getElem hlt'⟩
  rw [Vx i _ he] at hv
  have hr:(es.map Fc)[i]?=some [.int .i64 k,.int .i64 n,.int .i64 d]:=by rw [List.getElem?_map,he]; rfl
  rcases hrows with hrows | ⟨g,off,rfl,_,hg,hcell⟩
  ·rw [hrows] at hr; simp at hr
  have hrow:=hcell i _ hr
  refine Bi (As Ae 90 (AG PK)) (AG PK) w5.heap.size [] [] Sn [(3,.int .i64 b),(14,.slice (some ⟨g,off,none⟩) es.length c),(15,.int .i64 (es.length:Nat)),(16,.int .i64 (i:Nat))] w5.heap.size [] (Bm w5) fun w6 E6 hL6 hK6=>?_
  have B6:=B5.trans ((CH hK6).mono B5.size)
  have hr6:w6.rangeAt g (off + i * 3) [.int .i64 k,.int .i64 n,.int .i64 d]:=fun j u hu=>(World.cell?_of_block (B6.block g hg)).trans (hrow j u hu)
  refine BB (g:=g) (off:=off) (cap:=c) (sz:=3) (k:=i) (len:=es.length) (some 18) hlt' Tryz.underlying27 ?_
  refine Bc 97 g (off + i * 3) [.int .i64 k,.int .i64 n,.int .i64 d] (some 19) hr6 ?_
  refine Bi (Hi 7 90 (AF (AF Sn))) (AF (AF Sn)) w6.heap.size [] [(0,0)] Sm [(3,.int .i64 b),(5,.pointer (some ⟨w6.heap.size,0,none⟩)),(14,.slice (some ⟨g,off,none⟩) es.length c),(15,.int .i64 (es.length:Nat)),(16,.int .i64 (i:Nat))] (w6.heap.size + 1) [⟨w6.heap.size,0,[.int .i64 k,.int .i64 n,.int .i64 d],97,true⟩] (Bm w6) fun w7 E7 hL7 hK7=>?_
  have B7:=B6.trans ((CH hK7).mono B6.size)
  have G7:=hL7.sat.good
  refine GJ ((Cs Sm).getD #[]) ⟨[⟨w6.heap.size,0,[.int .i64 k,.int .i64 n,.int .i64 d],97,true⟩],[(1,0,0),(6,0,0),(11,0,1)],[⟨12,[(31,.agg ⟨[.int .i64 n,.int .i64 d]⟩)],.bool (Dd n d),(!(cond (decide (k≤b)) true (decide (1000000 < k)))) && true⟩]⟩ [(5,.pointer (some ⟨w6.heap.size,0,none⟩)),(14,.slice (some ⟨g,off,none⟩) es.length c),(15,.int .i64 (es.length:Nat)),(16,.int .i64 (i:Nat)),(34,.bool (cond (cond (decide (k≤b)) true (decide (1000000 < k))) true (!(Dd n d))))] (by kernel_rfl) (by kernel_rfl) (by kernel_rfl) G7 (fun sp hsp=>?_) (fun X=>by kernel_rfl) (by kernel_rfl) fun w8 E8 b8=>?_
  ·rw [List.mem_singleton.1 hsp]
   exact AR 123 [.tmp 31] [.agg ⟨[.int .i64 n,.int .i64 d]⟩] (fun _=>by kernel_rfl) fun _ u hq=>AP hq (H9 n d u)
  have B8:=B7.trans (b8.mono B7.size)
  have G8:=Au G7 b8
  generalize cond (cond (decide (k≤b)) true (decide (1000000 < k))) true (!(Dd n d))=bad at hv ⊢
  refine Bi 60 (AO Sm) w8.heap.size [] [] ff [(5,.pointer (some ⟨w6.heap.size,0,none⟩)),(14,.slice (some ⟨g,off,none⟩) es.length c),(15,.int .i64 (es.length:Nat)),(16,.int .i64 (i:Nat)),(34,.bool bad)] w8.heap.size [] (Bm w8) fun w9 E9 hL9 hK9=>?_
  have b9:Below w8.heap.size w8 w9:=CH hK9
  have B9:=B8.trans (b9.mono B8.size)
  have G9:=Au G8 b9
  cases bad with
  | true=>
   rw [hv]
   refine DB true (fun _=>?_) (fun h=>nomatch h)
   exact D6 (fn:=Tryz.f79) 60 (.bool false) fun wz Bz=>⟨rfl,B9.trans (Bz.mono B9.size)⟩
  | false=>
   refine DB false (fun h=>nomatch h) fun _=>?_
   refine Bi 60 (AL ff) w9.heap.size [⟨w6.heap.size,0,[.int .i64 k,.int .i64 n,.int .i64 d],97,true⟩] [(0,0)] (Ai So) [(3,.int .i64 k),(14,.slice (some ⟨g,off,none⟩) es.length c),(15,.int .i64 (es.length:Nat)),(16,.int .i64 (IntKind.i64.wrap ((i:Int) + 1)))] w9.heap.size [⟨w6.heap.size,0,[.int .i64 k,.int .i64 n,.int .i64 d],97,true⟩] (Iq w9 _ G9 (by simp)) fun w10 E10 hL10 hK10=>?_
   rw [Bf i (by omega)]
   refine hagain _ _ ⟨i + 1,k,E10,hlt',rfl,hv,hK10.below B9.size (fun q hq=>by rw [List.mem_singleton.1 hq]; exact B6.size) |> B9.trans⟩ ?_
   show es.length - AQ (.int .i64 ((i + 1:Nat):Int)) < es.length - AQ (.int .i64 (i:Int))
   simp only [AQ]
   omega
 ·have hie:i=es.length:=by have:=of_decide_eq_false hlt; omega
  rw [hv,hie,List.drop_length,Gv]
  exact D6 (fn:=Tryz.f79) 60 (.bool true) fun wz Bz=>⟨rfl,B5.trans (Bz.mono B5.size)⟩
end
end Go.Proofs.YtmcpjkcggfmcmaaGreatDoor
namespace Go.Proofs.YtmcpjkcggfmcmaaGreatDoor
noncomputable section
open Go.RowKit
set_option maxRecDepth 100000
set_option maxHeartbeats 1000000
attribute [local irreducible] BD Bb AF AG AL A4 Ai AO BO CV Di Bp At Fr
theorem Km (es:List (Int×Int×Int)) (A:Option Addr) (n c:Nat) (w:World) (hn:n=es.length) (hrows:CU CG w 3 A (es.map Fc)):Calls Tryz.prog 79 ([.slice A n c]:List Value).toArray w fun e w'=>e=.returned (.bool (Ed es))∧Below w.heap.size w w':=by
 subst hn
 exact LM es A c w hrows
def Da (x:Ex):Bool:=EY x 32
noncomputable def Xk:Code:=Tryz.f80.body.getD .skip
def fb:List Item:=AB 60 ([.code Xk])
def nD:List Item:=AB 60 (AF fb)
theorem HM (x:Ex) (p0a:Int) (p0ba:Int) (p0bb:Int) (p0ca:Int) (p0cb:Int) (p0cc:Int) (p0d:List UInt8) (p0e:Int) (p0f:Int) (p0gA:Option Addr) (p0gn:Nat) (p0gc:Nat) (w:World) (ht:DT x) (hx:De CG w x [.int .i64 p0a,.int .i64 p0ba,.int .i64 p0bb,.int .i64 p0ca,.int .i64 p0cb,.int .i64 p0cc,.string ⟨⟨p0d⟩⟩,.int .i64 p0e,.int .i64 p0f,.slice p0gA p0gn p0gc]):Calls Tryz.prog 80 ([.agg ⟨[.int .i64 p0a,.int .i64 p0ba,.int .i64 p0bb,.int .i64 p0ca,.int .i64 p0cb,.int .i64 p0cc,.string ⟨⟨p0d⟩⟩,.int .i64 p0e,.int .i64 p0f,.slice p0gA p0gn p0gc]⟩]:List Value).toArray w fun e w'=>e=.returned (.bool (Da x))∧Below w.heap.size w w':=by
 refine Ab (fn:=Tryz.f80) (c:=Xk) (n:=5) ?_
 have K1:=Wk.start w
 refine BF fb K1 [(0,0)] fun w1 K2=>?_
 refine Ak K2 (args:=[.agg ⟨[.int .i64 p0a,.int .i64 p0ba,.int .i64 p0bb,.int .i64 p0ca,.int .i64 p0cb,.int .i64 p0cc,.string ⟨⟨p0d⟩⟩,.int .i64 p0e,.int .i64 p0f,.slice p0gA p0gn p0gc]⟩,.int .i64 32]) (R0 _ x _ 32 w1 (Nat.le_refl _) ht (hx.below K2.B) (by decide) (by decide)) fun w2 K3=>?_
 refine AC nD K3 [] fun w3 K4=>?_
 exact AM K4 (0,0) (.bool (EY x 32)) (by unfold Da; rfl)
def C2 (x:Ex) (es:List (Int×Int×Int)) (p0a:Int) (p0ca:Bool) (p0cba:Int) (p0cbb:Int) (p0cbc:Int) (p0d:Int) (p0en:Nat) (p0fa:Int) (p0fba:Int) (p0fbb:Int) (p0fca:Int) (p0fcb:Int) (p0fcc:Int) (p0fd:List UInt8) (p0fe:Int) (p0ff:Int) (p0fgn:Nat) (p0g:Int) (p0ha:Int) (p0hb:Int):Bool:=cond (p0a == 1) (cond (cond (cond (cond (cond (DQ p0ca p0cba p0cbb p0cbc) (p0d == 0) (false)) ((p0en:Int) == 0) (false)) (Fn p0fa p0fba p0fbb p0fca p0fcb p0fcc p0fd p0fe p0ff p0fgn) (false)) (p0g == 0) (false)) ((p0ha == 0) && (p0hb == 0)) (false)) (cond (p0a == 5) (cond (cond (cond (cond (cond (cond (DQ p0ca p0cba p0cbb p0cbc) (!(p0ca)) (false)) (p0d == 0) (false)) ((p0en:Int) == 0) (false)) (Fn p0fa p0fba p0fbb p0fca p0fcb p0fcc p0fd p0fe p0ff p0fgn) (false)) (p0g == 0) (false)) ((p0ha == 0) && (p0hb == 0)) (false)) (cond (p0a == 2) (cond (cond (cond (cond (cond (cond (DQ p0ca p0cba p0cbb p0cbc) (!(p0ca)) (false)) (FZ p0d) (false)) (Ed es) (false)) (Fn p0fa p0fba p0fbb p0fca p0fcb p0fcc p0fd p0fe p0ff p0fgn) (false)) (p0g == 0) (false)) ((p0ha == 0) && (p0hb == 0)) (false)) (cond (p0a == 3) (cond (cond (cond (cond (cond (DQ p0ca p0cba p0cbb p0cbc) (FZ p0d) (false)) ((p0en:Int) == 0) (false)) (Da x) (false)) (p0g == 0) (false)) ((p0ha == 0) && (p0hb == 0)) (false)) (cond (p0a == 4) (cond (cond (cond (cond (cond ((p0ca == false) && ((p0cba == 0) && ((p0cbb == 0) && (p0cbc == 0)))) (FZ p0d) (false)) ((p0en:Int) == 0) (false)) (Da x) (false)) (GL p0g) (false)) (cond (Fo p0ha p0hb) (IA p0hb) (false)) (false)) (false)))))
noncomputable def Xo:Code:=Tryz.f43.body.getD .skip
def fy:List Item:=Ac 1 ([.code Xo])
def fx:List Item:=Ac 2 (AO fy)
def fw:List Item:=Ac 3 (AO fx)
def Y5:List Item:=AB 60 (AO fw)
def fv:List Item:=AB 60 (AG Y5)
def fu:List Item:=Ac 19 (AF fv)
def nJ:List Item:=AB 60 (AO fu)
def Y4:List Item:=AB 60 (AL Y5)
def ft:List Item:=Ac 9 (AG Y4)
def fq:List Item:=Ac 19 (AO ft)
def ke:List Item:=AB 60 (AO fq)
def S0:List Item:=AB 60 (AL Y4)
def bv:List Item:=Ac 11 (AG S0)
def bt:List Item:=Ac 12 (AO bv)
def bq:List Item:=Ac 19 (AO bt)
def kd:List Item:=AB 60 (AO bq)
def Sz:List Item:=AB 60 (AL S0)
def bo:List Item:=AB 60 (AG Sz)
def bm:List Item:=Ac 15 (AF bo)
def bk:List Item:=Ac 19 (AO bm)
def kb:List Item:=AB 60 (AO bk)
def Sy:List Item:=AB 60 (AL Sz)
def bj:List Item:=Ac 17 (AG Sy)
def bh:List Item:=Ac 18 (AO bj)
def bf:List Item:=Ac 19 (AO bh)
def kZ:List Item:=AB 60 (AO bf)
def kY:List Item:=AB 60 (AL Sy)
theorem Jl (x:Ex) (es:List (Int×Int×Int)) (p0a:Int) (p0b:List UInt8) (p0ca:Bool) (p0cba:Int) (p0cbb:Int) (p0cbc:Int) (p0d:Int) (p0eA:Option Addr) (p0en:Nat) (p0ec:Nat) (p0fa:Int) (p0fba:Int) (p0fbb:Int) (p0fca:Int) (p0fcb:Int) (p0fcc:Int) (p0fd:List UInt8) (p0fe:Int) (p0ff:Int) (p0fgA:Option Addr) (p0fgn:Nat) (p0fgc:Nat) (p0g:Int) (p0ha:Int) (p0hb:Int) (w:World) (ht:DT x) (hx:De CG w x [.int .i64 p0fa,.int .i64 p0fba,.int .i64 p0fbb,.int .i64 p0fca,.int .i64 p0fcb,.int .i64 p0fcc,.string ⟨⟨p0fd⟩⟩,.int .i64 p0fe,.int .i64 p0ff,.slice p0fgA p0fgn p0fgc]) (hn:p0en=es.length) (hrows:CU CG w 3 p0eA (es.map Fc)):Calls Tryz.prog 43 ([.agg ⟨[.int .i64 p0a,.string ⟨⟨p0b⟩⟩,.bool p0ca,.int .i64 p0cba,.int .i64 p0cbb,.int .i64 p0cbc,.int .i64 p0d,.slice p0eA p0en p0ec,.int .i64 p0fa,.int .i64 p0fba,.int .i64 p0fbb,.int .i64 p0fca,.int .i64 p0fcb,.int .i64 p0fcc,.string ⟨⟨p0fd⟩⟩,.int .i64 p0fe,.int .i64 p0ff,.slice p0fgA p0fgn p0fgc,.int .i64 p0g,.int .i64 p0ha,.int .i64 p0hb]⟩]:List Value).toArray w fun e w'=>e=.returned (.bool (C2 x es p0a p0ca p0cba p0cbb p0cbc p0d p0en p0fa p0fba p0fbb p0fca p0fcb p0fcc p0fd p0fe p0ff p0fgn p0g p0ha p0hb))∧Below w.heap.size w w':=by
 refine Ab (fn:=Tryz.f43) (c:=Xo) (n:=111) ?_
 have K1:=Wk.start w
 refine Bw 1 fy [⟨w.heap.size,0,[.int .i64 p0a,.string ⟨⟨p0b⟩⟩,.bool p0ca,.int .i64 p0cba,.int .i64 p0cbb,.int .i64 p0cbc,.int .i64 p0d,.slice p0eA p0en p0ec,.int .i64 p0fa,.int .i64 p0fba,.int .i64 p0fbb,.int .i64 p0fca,.int .i64 p0fcb,.int .i64 p0fcc,.string ⟨⟨p0fd⟩⟩,.int .i64 p0fe,.int .i64 p0ff,.slice p0fgA p0fgn p0fgc,.int .i64 p0g,.int .i64 p0ha,.int .i64 p0hb],34,true⟩] K1 [] fun w1 K2=>?_
 refine Aj K2 [(1,0,2)] [⟨3,[(10,.agg ⟨[.bool p0ca,.int .i64 p0cba,.int .i64 p0cbb,.int .i64 p0cbc]⟩),(11,.agg ⟨[.bool false,.int .i64 0,.int .i64 0,.int .i64 0]⟩)],.bool ((p0ca == false) && ((p0cba == 0) && ((p0cbb == 0) && (p0cbc == 0)))),true⟩] K2.G (fun sp hsp=>?_) fun w2 E2 K3=>?_
 ·rw [List.mem_singleton.1 hsp]
  exact Av fun _ E u _=>EC (k:=.eql) (T:=26) (a:=.agg ⟨[.bool p0ca,.int .i64 p0cba,.int .i64 p0cbb,.int .i64 p0cbc]⟩) (b:=.agg ⟨[.bool false,.int .i64 0,.int .i64 0,.int .i64 0]⟩) (NM u p0ca p0cba p0cbb p0cbc false 0 0 0)
 refine Ag 2 fx K3 [] fun w3 K4=>?_
 refine Aj K4 [(1,0,6),(4,0,7),(8,0,8),(11,0,18)] [⟨9,[(21,.agg ⟨[.int .i64 p0fa,.int .i64 p0fba,.int .i64 p0fbb,.int .i64 p0fca,.int .i64 p0fcb,.int .i64 p0fcc,.string ⟨⟨p0fd⟩⟩,.int .i64 p0fe,.int .i64 p0ff,.slice p0fgA p0fgn p0fgc]⟩)],.bool (Fn p0fa p0fba p0fbb p0fca p0fcb p0fcc p0fd p0fe p0ff p0fgn),true⟩] K4.G (fun sp hsp=>?_) fun w4 E4 K5=>?_
 ·rw [List.mem_singleton.1 hsp]
  exact AR 76 [.tmp 21] [.agg ⟨[.int .i64 p0fa,.int .i64 p0fba,.int .i64 p0fbb,.int .i64 p0fca,.int .i64 p0fcb,.int .i64 p0fcc,.string ⟨⟨p0fd⟩⟩,.int .i64 p0fe,.int .i64 p0ff,.slice p0fgA p0fgn p0fgc]⟩] (fun _=>by kernel_rfl) fun hc u hu=>AP hu (VV p0fa p0fba p0fbb p0fca p0fcb p0fcc p0fd p0fe p0ff p0fgA p0fgn p0fgc u)
 refine Ag 3 fw K5 [] fun w5 K6=>?_
 refine Aj K6 [(1,0,19)] [⟨3,[(27,.agg ⟨[.int .i64 p0ha,.int .i64 p0hb]⟩),(28,.agg ⟨[.int .i64 0,.int .i64 0]⟩)],.bool ((p0ha == 0) && (p0hb == 0)),true⟩] K6.G (fun sp hsp=>?_) fun w6 E6 K7=>?_
 ·rw [List.mem_singleton.1 hsp]
  exact Av fun _ E u _=>EC (k:=.eql) (T:=29) (a:=.agg ⟨[.int .i64 p0ha,.int .i64 p0hb]⟩) (b:=.agg ⟨[.int .i64 0,.int .i64 0]⟩) (Eg u p0ha p0hb 0 0)
 refine AC Y5 K7 [(0,0)] fun w7 K8=>?_
 refine AK (p0a == 1) (fun c8=>?_) (fun c8=>?_)
 ·refine AC fv K8 [(0,2)] fun w9 K9=>?_
  refine Ak K9 (F7 p0ca p0cba p0cbb p0cbc w9) fun w10 K10=>?_
  refine Ag 19 fu K10 [] fun w11 K11=>?_
  refine Aj K11 [] [] K11.G (fun sp hsp=>by cases hsp) fun w12 E12 K12=>?_
  refine AC nJ K12 [] fun w13 K13=>?_
  exact AM K13 (0,0) (.bool (cond (cond (cond (cond (cond (DQ p0ca p0cba p0cbb p0cbc) (p0d == 0) (false)) ((p0en:Int) == 0) (false)) (Fn p0fa p0fba p0fbb p0fca p0fcb p0fcc p0fd p0fe p0ff p0fgn) (false)) (p0g == 0) (false)) ((p0ha == 0) && (p0hb == 0)) (false))) (by unfold C2; rw [c8] <;> rfl)
 ·refine AC Y4 K8 [] fun w14 K14=>?_
  refine AK (p0a == 5) (fun c15=>?_) (fun c15=>?_)
  ·refine Ag 9 ft K14 [] fun w16 K15=>?_
   refine Aj K15 [(1,0,2),(6,0,2)] [⟨2,[(40,.agg ⟨[.bool p0ca,.int .i64 p0cba,.int .i64 p0cbb,.int .i64 p0cbc]⟩)],.bool (DQ p0ca p0cba p0cbb p0cbc),true⟩] K15.G (fun sp hsp=>?_) fun w17 E17 K16=>?_
   ·rw [List.mem_singleton.1 hsp]
    exact AR 77 [.tmp 40] [.agg ⟨[.bool p0ca,.int .i64 p0cba,.int .i64 p0cbb,.int .i64 p0cbc]⟩] (fun _=>by kernel_rfl) fun hc u hu=>AP hu (F7 p0ca p0cba p0cbb p0cbc u)
   refine Ag 19 fq K16 [] fun w18 K17=>?_
   refine Aj K17 [] [] K17.G (fun sp hsp=>by cases hsp) fun w19 E19 K18=>?_
   refine AC ke K18 [] fun w20 K19=>?_
   exact AM K19 (0,0) (.bool (cond (cond (cond (cond (cond (cond (DQ p0ca p0cba p0cbb p0cbc) (!(p0ca)) (false)) (p0d == 0) (false)) ((p0en:Int) == 0) (false)) (Fn p0fa p0fba p0fbb p0fca p0fcb p0fcc p0fd p0fe p0ff p0fgn) (false)) (p0g == 0) (false)) ((p0ha == 0) && (p0hb == 0)) (false))) (by unfold C2; rw [c8,c15] <;> rfl)
  ·refine AC S0 K14 [] fun w21 K20=>?_
   refine AK (p0a == 2) (fun c22=>?_) (fun c22=>?_)
   ·refine Ag 11 bv K20 [] fun w23 K21=>?_
    refine Aj K21 [(1,0,2),(6,0,2)] [⟨2,[(51,.agg ⟨[.bool p0ca,.int .i64 p0cba,.int .i64 p0cbb,.int .i64 p0cbc]⟩)],.bool (DQ p0ca p0cba p0cbb p0cbc),true⟩] K21.G (fun sp hsp=>?_) fun w24 E24 K22=>?_
    ·rw [List.mem_singleton.1 hsp]
     exact AR 77 [.tmp 51] [.agg ⟨[.bool p0ca,.int .i64 p0cba,.int .i64 p0cbb,.int .i64 p0cbc]⟩] (fun _=>by kernel_rfl) fun hc u hu=>AP hu (F7 p0ca p0cba p0cbb p0cbc u)
    refine Ag 12 bt K22 [] fun w25 K23=>?_
    refine Aj K23 [(1,0,6),(4,0,7)] [⟨2,[(60,.int .i64 p0d)],.bool (FZ p0d),true⟩,⟨5,[(63,.slice p0eA p0en p0ec)],.bool (Ed es),true⟩] K23.G (fun sp hsp=>?_) fun w26 E26 K24=>?_
    ·simp only [List.mem_cons,List.not_mem_nil,or_false] at hsp
     rcases hsp with rfl | rfl
     ·exact AR 78 [.tmp 60] [.int .i64 p0d] (fun _=>by kernel_rfl) fun hc u hu=>AP hu (J9 p0d u)
     ·exact AR 79 [.tmp 63] [.slice p0eA p0en p0ec] (fun _=>by kernel_rfl) fun hc u hu=>AP hu (Km es _ _ _ u hn (hrows.below (K23.B.trans (hu.mono K23.B.size))))
    refine Ag 19 bq K24 [] fun w27 K25=>?_
    refine Aj K25 [] [] K25.G (fun sp hsp=>by cases hsp) fun w28 E28 K26=>?_
    refine AC kd K26 [] fun w29 K27=>?_
    exact AM K27 (0,0) (.bool (cond (cond (cond (cond (cond (cond (DQ p0ca p0cba p0cbb p0cbc) (!(p0ca)) (false)) (FZ p0d) (false)) (Ed es) (false)) (Fn p0fa p0fba p0fbb p0fca p0fcb p0fcc p0fd p0fe p0ff p0fgn) (false)) (p0g == 0) (false)) ((p0ha == 0) && (p0hb == 0)) (false))) (by unfold C2; rw [c8,c15,c22] <;> rfl)
   ·refine AC Sz K20 [] fun w30 K28=>?_
    refine AK (p0a == 3) (fun c31=>?_) (fun c31=>?_)
    ·refine AC bo K28 [(0,2)] fun w32 K29=>?_
     refine Ak K29 (F7 p0ca p0cba p0cbb p0cbc w32) fun w33 K30=>?_
     refine Ag 15 bm K30 [] fun w34 K31=>?_
     refine Aj K31 [(1,0,6),(4,0,8)] [⟨2,[(71,.int .i64 p0d)],.bool (FZ p0d),true⟩,⟨5,[(74,.agg ⟨[.int .i64 p0fa,.int .i64 p0fba,.int .i64 p0fbb,.int .i64 p0fca,.int .i64 p0fcb,.int .i64 p0fcc,.string ⟨⟨p0fd⟩⟩,.int .i64 p0fe,.int .i64 p0ff,.slice p0fgA p0fgn p0fgc]⟩)],.bool (Da x),true⟩] K31.G (fun sp hsp=>?_) fun w35 E35 K32=>?_
     ·simp only [List.mem_cons,List.not_mem_nil,or_false] at hsp
      rcases hsp with rfl | rfl
      ·exact AR 78 [.tmp 71] [.int .i64 p0d] (fun _=>by kernel_rfl) fun hc u hu=>AP hu (J9 p0d u)
      ·exact AR 80 [.tmp 74] [.agg ⟨[.int .i64 p0fa,.int .i64 p0fba,.int .i64 p0fbb,.int .i64 p0fca,.int .i64 p0fcb,.int .i64 p0fcc,.string ⟨⟨p0fd⟩⟩,.int .i64 p0fe,.int .i64 p0ff,.slice p0fgA p0fgn p0fgc]⟩] (fun _=>by kernel_rfl) fun hc u hu=>AP hu (HM x p0fa p0fba p0fbb p0fca p0fcb p0fcc p0fd p0fe p0ff p0fgA p0fgn p0fgc u ht (hx.below (K31.B.trans (hu.mono K31.B.size))))
     refine Ag 19 bk K32 [] fun w36 K33=>?_
     refine Aj K33 [] [] K33.G (fun sp hsp=>by cases hsp) fun w37 E37 K34=>?_
     refine AC kb K34 [] fun w38 K35=>?_
     exact AM K35 (0,0) (.bool (cond (cond (cond (cond (cond (DQ p0ca p0cba p0cbb p0cbc) (FZ p0d) (false)) ((p0en:Int) == 0) (false)) (Da x) (false)) (p0g == 0) (false)) ((p0ha == 0) && (p0hb == 0)) (false))) (by unfold C2; rw [c8,c15,c22,c31] <;> rfl)
    ·refine AC Sy K28 [] fun w39 K36=>?_
     refine AK (p0a == 4) (fun c40=>?_) (fun c40=>?_)
     ·refine Ag 17 bj K36 [] fun w41 K37=>?_
      refine Aj K37 [(1,0,6),(4,0,8)] [⟨2,[(79,.int .i64 p0d)],.bool (FZ p0d),true⟩,⟨5,[(82,.agg ⟨[.int .i64 p0fa,.int .i64 p0fba,.int .i64 p0fbb,.int .i64 p0fca,.int .i64 p0fcb,.int .i64 p0fcc,.string ⟨⟨p0fd⟩⟩,.int .i64 p0fe,.int .i64 p0ff,.slice p0fgA p0fgn p0fgc]⟩)],.bool (Da x),true⟩] K37.G (fun sp hsp=>?_) fun w42 E42 K38=>?_
      ·simp only [List.mem_cons,List.not_mem_nil,or_false] at hsp
       rcases hsp with rfl | rfl
       ·exact AR 78 [.tmp 79] [.int .i64 p0d] (fun _=>by kernel_rfl) fun hc u hu=>AP hu (J9 p0d u)
       ·exact AR 80 [.tmp 82] [.agg ⟨[.int .i64 p0fa,.int .i64 p0fba,.int .i64 p0fbb,.int .i64 p0fca,.int .i64 p0fcb,.int .i64 p0fcc,.string ⟨⟨p0fd⟩⟩,.int .i64 p0fe,.int .i64 p0ff,.slice p0fgA p0fgn p0fgc]⟩] (fun _=>by kernel_rfl) fun hc u hu=>AP hu (HM x p0fa p0fba p0fbb p0fca p0fcb p0fcc p0fd p0fe p0ff p0fgA p0fgn p0fgc u ht (hx.below (K37.B.trans (hu.mono K37.B.size))))
      refine Ag 18 bh K38 [] fun w43 K39=>?_
      refine Aj K39 [(1,0,18),(4,0,19),(8,0,19)] [⟨2,[(85,.int .i64 p0g)],.bool (GL p0g),true⟩,⟨5,[(88,.agg ⟨[.int .i64 p0ha,.int .i64 p0hb]⟩)],.bool (Fo p0ha p0hb),true⟩,⟨9,[(92,.agg ⟨[.int .i64 p0ha,.int .i64 p0hb]⟩)],.bool (IA p0hb),((Fo p0ha p0hb)) && (true)⟩] K39.G (fun sp hsp=>?_) fun w44 E44 K40=>?_
      ·simp only [List.mem_cons,List.not_mem_nil,or_false] at hsp
       rcases hsp with rfl | rfl | rfl
       ·exact AR 81 [.tmp 85] [.int .i64 p0g] (fun _=>by kernel_rfl) fun hc u hu=>AP hu (Mi p0g u)
       ·exact AR 82 [.tmp 88] [.agg ⟨[.int .i64 p0ha,.int .i64 p0hb]⟩] (fun _=>by kernel_rfl) fun hc u hu=>AP hu (Mf p0ha p0hb u)
       ·exact AR 83 [.tmp 92] [.agg ⟨[.int .i64 p0ha,.int .i64 p0hb]⟩] (fun _=>by kernel_rfl) fun hc u hu=>AP hu (Rl p0ha p0hb u)
      refine Ag 19 bf K40 [] fun w45 K41=>?_
      refine Aj K41 [] [] K41.G (fun sp hsp=>by cases hsp) fun w46 E46 K42=>?_
      refine AC kZ K42 [] fun w47 K43=>?_
      exact AM K43 (0,0) (.bool (cond (cond (cond (cond (cond ((p0ca == false) && ((p0cba == 0) && ((p0cbb == 0) && (p0cbc == 0)))) (FZ p0d) (false)) ((p0en:Int) == 0) (false)) (Da x) (false)) (GL p0g) (false)) (cond (Fo p0ha p0hb) (IA p0hb) (false)) (false))) (by unfold C2; rw [c8,c15,c22,c31,c40] <;> rfl)
     ·refine AC kY K36 [] fun w48 K44=>?_
      exact AM K44 (0,0) (.bool false) (by unfold C2; rw [c8,c15,c22,c31,c40] <;> rfl)
end
end Go.Proofs.YtmcpjkcggfmcmaaGreatDoor

/-
  Part 12 of a proof: contracts of functions.
-/
import Derived.Test.YtmcpjkcggfmcmaaGreatDoorL11
set_option linter.all false
namespace Go.Proofs.YtmcpjkcggfmcmaaGreatDoor
noncomputable section
open Go.RowKit
set_option maxRecDepth 100000
def EI (S:Nat→Prop) (w:World):List Df→List (List Value)→Prop
 | [],rs=>rs=[]
 | d :: ds,rs=>∃ c cs,rs=c :: cs∧FN S w d c∧EI S w ds cs
theorem JU {S:Nat→Prop} {w:World}:∀ {ds:List Df} {rs:List (List Value)} {i:Nat} {d:Df},EI S w ds rs→ds[i]?=some d→∃ r,rs[i]?=some r∧FN S w d r
 | [],_,_,_,_,h=>by simp at h
 | x :: ds,rs,i,d,h,hi=>by
  unfold EI at h
  obtain ⟨c,cs,rfl,h1,h2⟩:=h
  cases i with
  | zero=>simp at hi; subst hi; exact ⟨c,by simp,h1⟩
  | succ i=>obtain ⟨r,hr,hx⟩:=JU (i:=i) h2 (by simpa using hi); exact ⟨r,by simpa using hr,hx⟩
theorem FN.below {w w':World} {d:Df} {cs:List Value} (h:FN CG w d cs) (B:Below w.heap.size w w'):FN CG w' d cs:=h.keep B.size fun g _ hg=>⟨trivial,B.block g hg⟩
theorem EI.below {w w':World} (B:Below w.heap.size w w'):∀ {ds:List Df} {rs:List (List Value)},EI CG w ds rs→EI CG w' ds rs
 | [],_,h=>by unfold EI at h ⊢; exact h
 | d :: ds,rs,h=>by
  unfold EI at h ⊢
  obtain ⟨c,cs,h0,h1,h2⟩:=h
  exact ⟨c,cs,h0,h1.below B,EI.below B h2⟩
def GB (d:Df):Prop:=DT d.body∧d.name.length≤4294967296
def RU (w:World) (nm:List UInt8) (ds:List Df) (cs:List Value):Prop:=∃ A c rs,cs=[.string ⟨⟨nm⟩⟩,.slice A ds.length c]∧EI CG w ds rs∧CU CG w 21 A rs
theorem RU.below {w w':World} {nm:List UInt8} {ds:List Df} {cs:List Value} (h:RU w nm ds cs) (B:Below w.heap.size w w'):RU w' nm ds cs:=by
 obtain ⟨A,c,rs,h1,h2,h3⟩:=h
 exact ⟨A,c,rs,h1,h2.below B,h3.below B⟩
def FB (d:Df):Bool:=match d.body with
 | .mk op num den mu hu du nm cnt md kids=>C2 d.body d.ents d.kind d.tb d.tm d.th d.td d.frm d.ents.length op num den mu hu du nm cnt md kids.length d.mode d.num d.den
def Dn:List Df→Bool
 | []=>true
 | d :: ds=>cond (cond (!(Tk.isName d.name)) true (!(FB d))) false (Dn ds)
def EO (nm:List UInt8) (ds:List Df):Bool:=cond (cond (!(Tk.isName nm)) true (decide (128 < (ds.length:Int)))) false (Dn ds)
theorem OI {ds:List Df} (i:Nat) (d:Df) (hi:ds[i]?=some d):Dn (ds.drop i)=cond (cond (!(Tk.isName d.name)) true (!(FB d))) false (Dn (ds.drop (i + 1))):=by
 have hl:i < ds.length:=(List.getElem?_eq_some_iff.1 hi).1
 have he:ds[i]=d:=(List.getElem?_eq_some_iff.1 hi).2
 rw [← List.getElem_cons_drop hl,Dn,he]
theorem RW (d:Df) (cs:List Value) (w:World) (ht:DT d.body) (h:FN CG w d cs):Calls Tryz.prog 43 ([.agg ⟨cs⟩]:List Value).toArray w fun e w'=>e=.returned (.bool (FB d))∧Below w.heap.size w w':=by
 obtain ⟨kind,name,tb,tm,th,td,frm,ents,⟨op,num,den,mu,hu,du,nm,cnt,md,kids⟩,mode,snum,sden⟩:=d
 obtain ⟨A,c,bs,hx,hr,rfl⟩:=h
 have hy:=hx
 unfold De at hy
 obtain ⟨A2,c2,ks,rfl,_,_⟩:=hy
 exact Jl (.mk op num den mu hu du nm cnt md kids) ents kind name tb tm th td frm A ents.length c op num den mu hu du nm cnt md A2 kids.length c2 mode snum sden w ht hx rfl hr
abbrev Xd (k:Int) (nm:List UInt8) (tb:Bool) (tm th td fr:Int) (A:Option Addr) (n c:Nat) (op num den mu hu du:Int) (bn:List UInt8) (cnt md:Int) (A':Option Addr) (n' c':Nat) (mode sn sd:Int):List Value:=
 [.int .i64 k,.string ⟨⟨nm⟩⟩,.bool tb,.int .i64 tm,.int .i64 th,.int .i64 td,.int .i64 fr,.slice A n c,.int .i64 op,.int .i64 num,.int .i64 den,.int .i64 mu,.int .i64 hu,.int .i64 du,.string ⟨⟨bn⟩⟩,.int .i64 cnt,.int .i64 md,.slice A' n' c',.int .i64 mode,.int .i64 sn,.int .i64 sd]
theorem FN.cellsV {w:World} {d:Df} {cs:List Value} (h:FN CG w d cs):∃ k tb tm th td fr A n c op num den mu hu du bn cnt md A' n' c' mode sn sd,cs=Xd k d.name tb tm th td fr A n c op num den mu hu du bn cnt md A' n' c' mode sn sd:=by
 obtain ⟨kind,name,tb,tm,th,td,frm,ents,⟨op,num,den,mu,hu,du,nm,cnt,md,kids⟩,mode,snum,sden⟩:=d
 obtain ⟨A,c,bs,hx,hr,rfl⟩:=h
 unfold De at hx
 obtain ⟨A2,c2,ks,rfl,_,_⟩:=hx
 exact ⟨_,_,_,_,_,_,_,_,_,_,_,_,_,_,_,_,_,_,_,_,_,_,_,_,rfl⟩
noncomputable def M4:Code:=Tryz.f17.body.getD .skip
def S2:List Item:=Ac 1 [.code M4]
def Y6:List Item:=AB 60 (AO S2)
def S5:List Item:=AB 60 (AL Y6)
def PM:List Item:=AB 60 (A4 S5)
def S4:List Item:=AB (As Ae 90 (AG PM)) (AG PM)
def S3:List Item:=Ac 6 (AF (AF S4))
def fz:List Item:=AB 60 (AO S3)
theorem I4 (an:List UInt8) (ds:List Df) (cs:List Value) (w:World) (hs:an.length≤4294967296) (hl:ds.length≤4294967296) (ht:∀ d∈ds,GB d) (hA:RU w an ds cs):Calls Tryz.prog 17 ([.agg ⟨cs⟩]:List Value).toArray w fun e w'=>e=.returned (.bool (EO an ds))∧Below w.heap.size w w':=by
 obtain ⟨A,c,rs,rfl,hds,hrows⟩:=hA
 refine Ff (args:=[.agg ⟨[.string ⟨⟨an⟩⟩,.slice A ds.length c]⟩]) (fn:=Tryz.f17) (c:=M4) (n:=32) ?_
 refine Bi (Hi 1 90 [.code M4]) [.code M4] w.heap.size [] [] S2 [(1,.pointer (some ⟨w.heap.size,0,none⟩))] (w.heap.size + 1) [⟨w.heap.size,0,[.string ⟨⟨an⟩⟩,.slice A ds.length c],38,true⟩] (Bm w) fun w0 E0 hL0 hK0=>?_
 have B0:Below w.heap.size w w0:=CH hK0
 have G0:=hL0.sat.good
 refine GJ ((Cs S2).getD #[]) ⟨[⟨w.heap.size,0,[.string ⟨⟨an⟩⟩,.slice A ds.length c],38,true⟩],[(1,0,0),(6,0,1)],[⟨2,[(6,.string ⟨⟨an⟩⟩)],.bool (Tk.isName an),true⟩]⟩ [(1,.pointer (some ⟨w.heap.size,0,none⟩)),(14,.bool (cond (!(Tk.isName an)) true (decide (128 < (ds.length:Int)))))] (by kernel_rfl) (by kernel_rfl) (by kernel_rfl) G0 (fun sp hsp=>?_) (fun X=>by kernel_rfl) (by kernel_rfl) fun wa Ea ba=>?_
 ·rw [List.mem_singleton.1 hsp]
  exact AR 42 [.tmp 6] [.string ⟨⟨an⟩⟩] (fun _=>by kernel_rfl) fun _ u hq=>AP hq (Ee an u hs)
 have Ba:=B0.trans (ba.mono B0.size)
 have Ga:=Au G0 ba
 unfold EO
 generalize cond (!(Tk.isName an)) true (decide (128 < (ds.length:Int)))=bad
 refine Bi 60 (AO S2) wa.heap.size [] [] Y6 [(1,.pointer (some ⟨w.heap.size,0,none⟩)),(14,.bool bad)] wa.heap.size [] (Bm wa) fun w1 E1 hL1 hK1=>?_
 have b1:Below wa.heap.size wa w1:=CH hK1
 have B1:Below w.heap.size w w1:=Ba.trans (b1.mono Ba.size)
 have G1:=Au Ga b1
 cases bad with
 | true=>
  refine DB true (fun _=>?_) (fun h=>nomatch h)
  exact D6 (fn:=Tryz.f17) 60 (.bool false) fun wz Bz=>⟨rfl,B1.trans (Bz.mono B1.size)⟩
 | false=>
 rw [show cond false false (Dn ds)=Dn ds from rfl]
 refine DB false (fun h=>nomatch h) fun _=>?_
 refine Bi 60 (AL Y6) w1.heap.size [⟨w.heap.size,0,[.string ⟨⟨an⟩⟩,.slice A ds.length c],38,true⟩] [(0,1)] S5 [(16,.slice A ds.length c),(17,.int .i64 (ds.length:Nat)),(18,.int .i64 ((0:Nat):Int))] w1.heap.size [⟨w.heap.size,0,[.string ⟨⟨an⟩⟩,.slice A ds.length c],38,true⟩] (Iq w1 _ G1 (by simp)) fun w4 E4 hL4 hK4=>?_
 have B4:Below w.heap.size w w4:=B1.trans (hK4.below B1.size (fun k hk=>by rw [List.mem_singleton.1 hk]; exact Nat.le_refl _))
 refine Bj (by kernel_rfl) (fun E wx=>∃ (i:Nat) (E0:Nat→Value),i≤ds.length∧E=CX E0 [(16,.slice A ds.length c),(17,.int .i64 (ds.length:Nat)),(18,.int .i64 (i:Nat))]∧Dn ds=Dn (ds.drop i)∧Below w.heap.size w wx)
  (fun E _=>ds.length - AQ (E 18)) ⟨0,E4,Nat.zero_le _,rfl,rfl,B4⟩ ?_
 rintro E wx ⟨i,E0,hi,rfl,hv,Bx⟩ hagain
 refine Bi 60 (A4 S5) wx.heap.size [] [] PM [(16,.slice A ds.length c),(17,.int .i64 (ds.length:Nat)),(18,.int .i64 (i:Nat)),(19,.bool (decide ((i:Int) < (ds.length:Int))))] wx.heap.size [] (Bm wx) fun w5 E5 hL5 hK5=>?_
 have B5:=Bx.trans ((CH hK5).mono Bx.size)
 refine DB (decide ((i:Int) < (ds.length:Int))) (fun hlt=>?_) (fun hlt=>?_)
 ·have hlt':i < ds.length:=by have:=of_decide_eq_true hlt; omega
  obtain ⟨d,he⟩:∃ e,ds[i]?=some e:=⟨_,List.getElem?_eq_getElem hlt'⟩
  rw [OI i _ he] at hv
  obtain ⟨r,hr,hdS⟩:=JU hds he
  have hdl:=ht d (List.mem_of_getElem? he)
  rcases hrows with hrows | ⟨g,off,rfl,_,hg,hcell⟩
  ·rw [hrows] at hr; simp at hr
  have hrow:=hcell i _ hr
  refine Bi (As Ae 90 (AG PM)) (AG PM) w5.heap.size [] [] S4 [(16,.slice (some ⟨g,off,none⟩) ds.length c),(17,.int .i64 (ds.length:Nat)),(18,.int .i64 (i:Nat))] w5.heap.size [] (Bm w5) fun w6 E6 hL6 hK6=>?_
  have B6:=B5.trans ((CH hK6).mono B5.size)
  have hr6:w6.rangeAt g (off + i * 21) r:=fun j u hu=>(World.cell?_of_block (B6.block g hg)).trans (hrow j u hu)
  refine BB (g:=g) (off:=off) (cap:=c) (sz:=21) (k:=i) (len:=ds.length) (some 20) hlt' Tryz.underlying36 ?_
  refine Bc 34 g (off + i * 21) r (some 21) (h2:=by rw [hdS.len]; kernel_rfl) hr6 ?_
  obtain ⟨k,tb,tm,th,td,fr,A1,n1,c1,op,num,den,mu,hu,du,bn,cnt,md,A',n',c',mode,sn,sd,hcs⟩:=hdS.cellsV
  have hname:d.name.length≤4294967296:=hdl.2
  have hcall:=fun (u:World) (B:Below w.heap.size w u)=>RW d r u hdl.1 (hdS.below B)
  subst hcs
  generalize FB d=vd at hv hcall
  generalize d.name=dn at hv hname hcall hr6 ⊢
  refine Bi (Hi 6 90 (AF (AF S4))) (AF (AF S4)) w6.heap.size [] [(0,0)] S3 [(4,.pointer (some ⟨w6.heap.size,0,none⟩)),(16,.slice (some ⟨g,off,none⟩) ds.length c),(17,.int .i64 (ds.length:Nat)),(18,.int .i64 (i:Nat))] (w6.heap.size + 1) [⟨w6.heap.size,0,Xd k dn tb tm th td fr A1 n1 c1 op num den mu hu du bn cnt md A' n' c' mode sn sd,34,true⟩] (Bm w6) fun w7 E7 hL7 hK7=>?_
  have B7:=B6.trans ((CH hK7).mono B6.size)
  have G7:=hL7.sat.good
  refine GJ ((Cs S3).getD #[]) ⟨[⟨w6.heap.size,0,Xd k dn tb tm th td fr A1 n1 c1 op num den mu hu du bn cnt md A' n' c' mode sn sd,34,true⟩],[(1,0,1),(5,0,0)],[⟨2,[(23,.string ⟨⟨dn⟩⟩)],.bool (Tk.isName dn),true⟩,⟨6,[(27,.agg ⟨Xd k dn tb tm th td fr A1 n1 c1 op num den mu hu du bn cnt md A' n' c' mode sn sd⟩)],.bool vd,(!(!(Tk.isName dn))) && true⟩]⟩ [(16,.slice (some ⟨g,off,none⟩) ds.length c),(17,.int .i64 (ds.length:Nat)),(18,.int .i64 (i:Nat)),(30,.bool (cond (!(Tk.isName dn)) true (!vd)))] (by kernel_rfl) (by kernel_rfl) (by kernel_rfl) G7 (fun sp hsp=>?_) (fun X=>by kernel_rfl) (by kernel_rfl) fun w8 E8 b8=>?_
  ·simp only [List.mem_cons,List.not_mem_nil,or_false] at hsp
   rcases hsp with rfl | rfl
   ·exact AR 42 [.tmp 23] [.string ⟨⟨dn⟩⟩] (fun _=>by kernel_rfl) fun _ u hq=>AP hq (Ee dn u hname)
   ·exact AR 43 [.tmp 27] [.agg ⟨Xd k dn tb tm th td fr A1 n1 c1 op num den mu hu du bn cnt md A' n' c' mode sn sd⟩] (fun _=>by kernel_rfl) fun _ u hq=>AP hq (hcall u (B7.trans (hq.mono B7.size)))
  have B8:=B7.trans (b8.mono B7.size)
  generalize cond (!(Tk.isName dn)) true (!vd)=bad at hv ⊢
  refine Bi 60 (AO S3) w8.heap.size [] [] fz [(16,.slice (some ⟨g,off,none⟩) ds.length c),(17,.int .i64 (ds.length:Nat)),(18,.int .i64 (i:Nat)),(30,.bool bad)] w8.heap.size [] (Bm w8) fun w9 E9 hL9 hK9=>?_
  have B9:=B8.trans ((CH hK9).mono B8.size)
  cases bad with
  | true=>
   rw [hv]
   refine DB true (fun _=>?_) (fun h=>nomatch h)
   exact D6 (fn:=Tryz.f17) 60 (.bool false) fun wz Bz=>⟨rfl,B9.trans (Bz.mono B9.size)⟩
  | false=>
   refine DB false (fun h=>nomatch h) fun _=>?_
   refine Bi 60 (AL fz) w9.heap.size [] [] (Ai S5) [(16,.slice (some ⟨g,off,none⟩) ds.length c),(17,.int .i64 (ds.length:Nat)),(18,.int .i64 (IntKind.i64.wrap ((i:Int) + 1)))] w9.heap.size [] (Bm w9) fun w10 E10 hL10 hK10=>?_
   rw [Bf i (by omega)]
   refine hagain _ _ ⟨i + 1,E10,hlt',rfl,hv,B9.trans ((CH hK10).mono B9.size)⟩ ?_
   show ds.length - AQ (.int .i64 ((i + 1:Nat):Int)) < ds.length - AQ (.int .i64 (i:Int))
   simp only [AQ]
   omega
 ·have hie:i=ds.length:=by have:=of_decide_eq_false hlt; omega
  rw [hv,hie,List.drop_length,Dn]
  exact D6 (fn:=Tryz.f17) 60 (.bool true) fun wz Bz=>⟨rfl,B5.trans (Bz.mono B5.size)⟩
end
end Go.Proofs.YtmcpjkcggfmcmaaGreatDoor
namespace Go.Proofs.YtmcpjkcggfmcmaaGreatDoor
noncomputable section
open Go.RowKit
set_option maxRecDepth 100000
set_option maxHeartbeats 1000000
attribute [local irreducible] BD Bb AF AG AL A4 Ai AO BO CV Di Bp At Fr
def DX (p0:Int):Bool:=cond (decide (-3≤p0)) (decide (p0≤3)) (false)
noncomputable def Xs:Code:=Tryz.f211.body.getD .skip
def gE:List Item:=Ac 1 ([.code Xs])
def nR:List Item:=AB 60 (AO gE)
theorem Hs (p0:Int) (w:World):Calls Tryz.prog 211 ([.int .i64 p0]:List Value).toArray w fun e w'=>e=.returned (.bool (DX p0))∧Below w.heap.size w w':=by
 refine Ab (fn:=Tryz.f211) (c:=Xs) (n:=9) ?_
 have K1:=Wk.start w
 refine Ag 1 gE K1 [] fun w1 K2=>?_
 refine Aj K2 [] [] K2.G (fun sp hsp=>by cases hsp) fun w2 E2 K3=>?_
 refine AC nR K3 [] fun w3 K4=>?_
 exact AM K4 (0,0) (.bool (cond (decide (-3≤p0)) (decide (p0≤3)) (false))) (by unfold DX; rfl)
def Ep (p0a:Int) (p0b:Int) (p0c:Int):Bool:=cond (cond (DX p0a) (DX p0b) (false)) (DX p0c) (false)
noncomputable def Xp:Code:=Tryz.f209.body.getD .skip
def gA:List Item:=Ac 1 ([.code Xp])
def nK:List Item:=AB 60 (AO gA)
theorem I5 (p0a:Int) (p0b:Int) (p0c:Int) (w:World):Calls Tryz.prog 209 ([.agg ⟨[.int .i64 p0a,.int .i64 p0b,.int .i64 p0c]⟩]:List Value).toArray w fun e w'=>e=.returned (.bool (Ep p0a p0b p0c))∧Below w.heap.size w w':=by
 refine Ab (fn:=Tryz.f209) (c:=Xp) (n:=16) ?_
 have K1:=Wk.start w
 refine Bw 1 gA [⟨w.heap.size,0,[.int .i64 p0a,.int .i64 p0b,.int .i64 p0c],24,true⟩] K1 [] fun w1 K2=>?_
 refine Aj K2 [(1,0,0),(5,0,1),(10,0,2)] [⟨2,[(4,.int .i64 p0a)],.bool (DX p0a),true⟩,⟨6,[(8,.int .i64 p0b)],.bool (DX p0b),((DX p0a)) && (true)⟩,⟨11,[(13,.int .i64 p0c)],.bool (DX p0c),((cond (DX p0a) (DX p0b) (false))) && (true)⟩] K2.G (fun sp hsp=>?_) fun w2 E2 K3=>?_
 ·simp only [List.mem_cons,List.not_mem_nil,or_false] at hsp
  rcases hsp with rfl | rfl | rfl
  ·exact AR 211 [.tmp 4] [.int .i64 p0a] (fun _=>by kernel_rfl) fun hc u hu=>AP hu (Hs p0a u)
  ·exact AR 211 [.tmp 8] [.int .i64 p0b] (fun _=>by kernel_rfl) fun hc u hu=>AP hu (Hs p0b u)
  ·exact AR 211 [.tmp 13] [.int .i64 p0c] (fun _=>by kernel_rfl) fun hc u hu=>AP hu (Hs p0c u)
 refine AC nK K3 [] fun w3 K4=>?_
 exact AM K4 (0,0) (.bool (cond (cond (DX p0a) (DX p0b) (false)) (DX p0c) (false))) (by unfold Ep; rfl)
def Fe (p0a:Int) (p0b:Int) (p0c:Int) (p1a:Int) (p1b:Int) (p1c:Int) (p2:Int):Int×Int×Int×Int:=cond (cond (!(Ep p0a p0b p0c)) (true) (!(Ep p1a p1b p1c))) ((0,0,0,1)) (cond (!(Ep (IntKind.i64.wrap (p0a + (IntKind.i64.wrap (p2 * p1a)))) (IntKind.i64.wrap (p0b + (IntKind.i64.wrap (p2 * p1b)))) (IntKind.i64.wrap (p0c + (IntKind.i64.wrap (p2 * p1c)))))) ((0,0,0,10)) ((IntKind.i64.wrap (p0a + (IntKind.i64.wrap (p2 * p1a))),IntKind.i64.wrap (p0b + (IntKind.i64.wrap (p2 * p1b))),IntKind.i64.wrap (p0c + (IntKind.i64.wrap (p2 * p1c))),0)))
def KN (r:Int×Int×Int×Int):Value:=.tuple #[.agg ⟨[.int .i64 (r.1),.int .i64 (r.2.1),.int .i64 (r.2.2.1)]⟩,.int .i64 (r.2.2.2)]
noncomputable def X1:Code:=Tryz.f196.body.getD .skip
def gT:List Item:=Ac 1 ([.code X1])
def ZM:List Item:=AB 60 (AO gT)
def np:List Item:=AB 60 (AG ZM)
def gS:List Item:=AB 60 (AL ZM)
def ZL:List Item:=AB 60 (AF gS)
def no:List Item:=AB 60 (AG ZL)
def nl:List Item:=AB 60 (AL ZL)
theorem LK (p0a:Int) (p0b:Int) (p0c:Int) (p1a:Int) (p1b:Int) (p1c:Int) (p2:Int) (w:World):Calls Tryz.prog 196 ([.agg ⟨[.int .i64 p0a,.int .i64 p0b,.int .i64 p0c]⟩,.agg ⟨[.int .i64 p1a,.int .i64 p1b,.int .i64 p1c]⟩,.int .i64 p2]:List Value).toArray w fun e w'=>e=.returned (KN (Fe p0a p0b p0c p1a p1b p1c p2))∧Below w.heap.size w w':=by
 refine Ab (fn:=Tryz.f196) (c:=X1) (n:=45) ?_
 have K1:=Wk.start w
 refine Bw 1 gT [⟨w.heap.size,0,[.int .i64 p0a,.int .i64 p0b,.int .i64 p0c],24,true⟩,⟨w.heap.size + 1,0,[.int .i64 p1a,.int .i64 p1b,.int .i64 p1c],24,true⟩,⟨w.heap.size + 2,0,[.int .i64 0,.int .i64 0,.int .i64 0],24,true⟩] K1 [] fun w1 K2=>?_
 refine Aj K2 [(0,0,0),(4,1,0)] [⟨1,[(9,.agg ⟨[.int .i64 p0a,.int .i64 p0b,.int .i64 p0c]⟩)],.bool (Ep p0a p0b p0c),true⟩,⟨5,[(13,.agg ⟨[.int .i64 p1a,.int .i64 p1b,.int .i64 p1c]⟩)],.bool (Ep p1a p1b p1c),(!(!(Ep p0a p0b p0c))) && (true)⟩] K2.G (fun sp hsp=>?_) fun w2 E2 K3=>?_
 ·simp only [List.mem_cons,List.not_mem_nil,or_false] at hsp
  rcases hsp with rfl | rfl
  ·exact AR 209 [.tmp 9] [.agg ⟨[.int .i64 p0a,.int .i64 p0b,.int .i64 p0c]⟩] (fun _=>by kernel_rfl) fun hc u hu=>AP hu (I5 p0a p0b p0c u)
  ·exact AR 209 [.tmp 13] [.agg ⟨[.int .i64 p1a,.int .i64 p1b,.int .i64 p1c]⟩] (fun _=>by kernel_rfl) fun hc u hu=>AP hu (I5 p1a p1b p1c u)
 refine AC ZM K3 [] fun w3 K4=>?_
 refine AK (cond (!(Ep p0a p0b p0c)) (true) (!(Ep p1a p1b p1c))) (fun c4=>?_) (fun c4=>?_)
 ·refine AC np K4 [(2,0)] fun w5 K5=>?_
  exact AM K5 (2,0) (.tuple #[.agg ⟨[.int .i64 0,.int .i64 0,.int .i64 0]⟩,.int .i64 1]) (by unfold Fe; rw [c4] <;> rfl)
 ·refine BF gS K4 [(0,0),(1,0),(0,1),(1,1),(0,2),(1,2),(3,0),(3,0)] fun w6 K6=>?_
  refine Ak K6 (I5 (IntKind.i64.wrap (p0a + (IntKind.i64.wrap (p2 * p1a)))) (IntKind.i64.wrap (p0b + (IntKind.i64.wrap (p2 * p1b)))) (IntKind.i64.wrap (p0c + (IntKind.i64.wrap (p2 * p1c)))) w6) fun w7 K7=>?_
  refine AC ZL K7 [] fun w8 K8=>?_
  refine AK (!(Ep (IntKind.i64.wrap (p0a + (IntKind.i64.wrap (p2 * p1a)))) (IntKind.i64.wrap (p0b + (IntKind.i64.wrap (p2 * p1b)))) (IntKind.i64.wrap (p0c + (IntKind.i64.wrap (p2 * p1c)))))) (fun c9=>?_) (fun c9=>?_)
  ·refine AC no K8 [(2,0)] fun w10 K9=>?_
   exact AM K9 (2,0) (.tuple #[.agg ⟨[.int .i64 0,.int .i64 0,.int .i64 0]⟩,.int .i64 10]) (by unfold Fe; rw [c4,c9] <;> rfl)
  ·refine BF nl K8 [(3,0),(2,0)] fun w11 K10=>?_
   exact AM K10 (2,0) (.tuple #[.agg ⟨[.int .i64 (IntKind.i64.wrap (p0a + (IntKind.i64.wrap (p2 * p1a)))),.int .i64 (IntKind.i64.wrap (p0b + (IntKind.i64.wrap (p2 * p1b)))),.int .i64 (IntKind.i64.wrap (p0c + (IntKind.i64.wrap (p2 * p1c))))]⟩,.int .i64 0]) (by unfold Fe; rw [c4,c9] <;> rfl)
def Ib (p0a:Int) (p0b:Int) (p0c:Int) (p1a:Int) (p1b:Int) (p1c:Int):Int×Int×Int×Int:=Fe p0a p0b p0c p1a p1b p1c 1
def mY (r:Int×Int×Int×Int):Value:=.tuple #[.agg ⟨[.int .i64 (r.1),.int .i64 (r.2.1),.int .i64 (r.2.2.1)]⟩,.int .i64 (r.2.2.2)]
noncomputable def Xw:Code:=Tryz.f174.body.getD .skip
def gK:List Item:=AB 60 ([.code Xw])
def nZ:List Item:=AB 60 (AF gK)
theorem Yr (p0a:Int) (p0b:Int) (p0c:Int) (p1a:Int) (p1b:Int) (p1c:Int) (w:World):Calls Tryz.prog 174 ([.agg ⟨[.int .i64 p0a,.int .i64 p0b,.int .i64 p0c]⟩,.agg ⟨[.int .i64 p1a,.int .i64 p1b,.int .i64 p1c]⟩]:List Value).toArray w fun e w'=>e=.returned (mY (Ib p0a p0b p0c p1a p1b p1c))∧Below w.heap.size w w':=by
 refine Ab (fn:=Tryz.f174) (c:=Xw) (n:=11) ?_
 have K1:=Wk.start w
 refine BF gK K1 [(0,0),(1,0)] fun w1 K2=>?_
 refine Ak K2 (LK p0a p0b p0c p1a p1b p1c 1 w1) fun w2 K3=>?_
 refine BF nZ K3 [(2,0)] fun w3 K4=>?_
 exact AM K4 (2,0) (KN (Fe p0a p0b p0c p1a p1b p1c 1)) (by unfold Ib; rfl)
def Id (p0a:Int) (p0b:Int) (p0c:Int) (p1a:Int) (p1b:Int) (p1c:Int):Int×Int×Int×Int:=Fe p0a p0b p0c p1a p1b p1c (-1)
def mt (r:Int×Int×Int×Int):Value:=.tuple #[.agg ⟨[.int .i64 (r.1),.int .i64 (r.2.1),.int .i64 (r.2.2.1)]⟩,.int .i64 (r.2.2.2)]
noncomputable def X0:Code:=Tryz.f175.body.getD .skip
def gR:List Item:=AB 60 ([.code X0])
def nk:List Item:=AB 60 (AF gR)
theorem Ys (p0a:Int) (p0b:Int) (p0c:Int) (p1a:Int) (p1b:Int) (p1c:Int) (w:World):Calls Tryz.prog 175 ([.agg ⟨[.int .i64 p0a,.int .i64 p0b,.int .i64 p0c]⟩,.agg ⟨[.int .i64 p1a,.int .i64 p1b,.int .i64 p1c]⟩]:List Value).toArray w fun e w'=>e=.returned (mt (Id p0a p0b p0c p1a p1b p1c))∧Below w.heap.size w w':=by
 refine Ab (fn:=Tryz.f175) (c:=X0) (n:=11) ?_
 have K1:=Wk.start w
 refine BF gR K1 [(0,0),(1,0)] fun w1 K2=>?_
 refine Ak K2 (LK p0a p0b p0c p1a p1b p1c (-1) w1) fun w2 K3=>?_
 refine BF nk K3 [(2,0)] fun w3 K4=>?_
 exact AM K4 (2,0) (KN (Fe p0a p0b p0c p1a p1b p1c (-1))) (by unfold Id; rfl)
def AU (p0a:Bool) (p0ba:Int) (p0bb:Int) (p0bc:Int) (p1:Int):Bool×Int×Int×Int×Int:=cond (!(p1 == 0)) ((false,0,0,0,p1)) ((p0a,p0ba,p0bb,p0bc,0))
def BT (r:Bool×Int×Int×Int×Int):Value:=.tuple #[.agg ⟨[.bool (r.1),.int .i64 (r.2.1),.int .i64 (r.2.2.1),.int .i64 (r.2.2.2.1)]⟩,.int .i64 (r.2.2.2.2)]
noncomputable def Xq:Code:=Tryz.f152.body.getD .skip
def Y7:List Item:=AB 60 ([.code Xq])
def nO:List Item:=AB 60 (AG Y7)
def nN:List Item:=AB 60 (AL Y7)
theorem Cu (p0a:Bool) (p0ba:Int) (p0bb:Int) (p0bc:Int) (p1:Int) (w:World):Calls Tryz.prog 152 ([.agg ⟨[.bool p0a,.int .i64 p0ba,.int .i64 p0bb,.int .i64 p0bc]⟩,.int .i64 p1]:List Value).toArray w fun e w'=>e=.returned (BT (AU p0a p0ba p0bb p0bc p1))∧Below w.heap.size w w':=by
 refine Ab (fn:=Tryz.f152) (c:=Xq) (n:=11) ?_
 have K1:=Wk.start w
 refine BF Y7 K1 [] fun w1 K2=>?_
 refine AK (!(p1 == 0)) (fun c2=>?_) (fun c2=>?_)
 ·refine AC nO K2 [(1,0)] fun w3 K3=>?_
  exact AM K3 (1,0) (.tuple #[.agg ⟨[.bool false,.int .i64 0,.int .i64 0,.int .i64 0]⟩,.int .i64 p1]) (by unfold AU; rw [c2] <;> rfl)
 ·refine BF nN K2 [(0,0),(1,0)] fun w4 K4=>?_
  exact AM K4 (1,0) (.tuple #[.agg ⟨[.bool p0a,.int .i64 p0ba,.int .i64 p0bb,.int .i64 p0bc]⟩,.int .i64 0]) (by unfold AU; rw [c2] <;> rfl)
def DC (p0a:Bool) (p0ba:Int) (p0bb:Int) (p0bc:Int) (p1a:Int) (p1b:Int) (p1c:Int):Int:=cond (p0a) (9) (cond (!((p0ba == p1a) && ((p0bb == p1b) && (p0bc == p1c)))) (10) (0))
noncomputable def Xz:Code:=Tryz.f151.body.getD .skip
def ZK:List Item:=AB 60 ([.code Xz])
def nj:List Item:=AB 60 (AG ZK)
def gQ:List Item:=Ac 3 (AL ZK)
def ZJ:List Item:=AB 60 (AO gQ)
def ni:List Item:=AB 60 (AG ZJ)
def nh:List Item:=AB 60 (AL ZJ)
theorem H1 (p0a:Bool) (p0ba:Int) (p0bb:Int) (p0bc:Int) (p1a:Int) (p1b:Int) (p1c:Int) (w:World):Calls Tryz.prog 151 ([.agg ⟨[.bool p0a,.int .i64 p0ba,.int .i64 p0bb,.int .i64 p0bc]⟩,.agg ⟨[.int .i64 p1a,.int .i64 p1b,.int .i64 p1c]⟩]:List Value).toArray w fun e w'=>e=.returned (.int .i64 (DC p0a p0ba p0bb p0bc p1a p1b p1c))∧Below w.heap.size w w':=by
 refine Ab (fn:=Tryz.f151) (c:=Xz) (n:=11) ?_
 have K1:=Wk.start w
 refine Bv ZK [⟨w.heap.size,0,[.bool p0a,.int .i64 p0ba,.int .i64 p0bb,.int .i64 p0bc],26,true⟩,⟨w.heap.size + 1,0,[.int .i64 p1a,.int .i64 p1b,.int .i64 p1c],24,true⟩] K1 [(0,0)] fun w1 K2=>?_
 refine AK (p0a) (fun c2=>?_) (fun c2=>?_)
 ·refine AC nj K2 [] fun w3 K3=>?_
  exact AM K3 (0,0) (.int .i64 9) (by unfold DC; rw [c2] <;> rfl)
 ·refine Ag 3 gQ K2 [] fun w4 K4=>?_
  refine Aj K4 [(1,0,1),(2,1,0)] [⟨3,[(8,.agg ⟨[.int .i64 p0ba,.int .i64 p0bb,.int .i64 p0bc]⟩),(9,.agg ⟨[.int .i64 p1a,.int .i64 p1b,.int .i64 p1c]⟩)],.bool (!((p0ba == p1a) && ((p0bb == p1b) && (p0bc == p1c)))),true⟩] K4.G (fun sp hsp=>?_) fun w5 E5 K5=>?_
  ·rw [List.mem_singleton.1 hsp]
   exact Av fun _ E u _=>EC (k:=.neq) (T:=24) (a:=.agg ⟨[.int .i64 p0ba,.int .i64 p0bb,.int .i64 p0bc]⟩) (b:=.agg ⟨[.int .i64 p1a,.int .i64 p1b,.int .i64 p1c]⟩) (Io u p0ba p0bb p0bc p1a p1b p1c)
  refine AC ZJ K5 [] fun w6 K6=>?_
  refine AK (!((p0ba == p1a) && ((p0bb == p1b) && (p0bc == p1c)))) (fun c7=>?_) (fun c7=>?_)
  ·refine AC ni K6 [] fun w8 K7=>?_
   exact AM K7 (0,0) (.int .i64 10) (by unfold DC; rw [c2,c7] <;> rfl)
  ·refine AC nh K6 [] fun w9 K8=>?_
   exact AM K8 (0,0) (.int .i64 0) (by unfold DC; rw [c2,c7] <;> rfl)
def Ay (p0a:Bool) (p0ba:Int) (p0bb:Int) (p0bc:Int) (p1a:Bool) (p1ba:Int) (p1bb:Int) (p1bc:Int):Int:=cond (p0a) (9) (DC p1a p1ba p1bb p1bc p0ba p0bb p0bc)
noncomputable def Xr:Code:=Tryz.f153.body.getD .skip
def Y8:List Item:=AB 60 ([.code Xr])
def nQ:List Item:=AB 60 (AG Y8)
def gD:List Item:=AB 60 (AL Y8)
def nP:List Item:=AB 60 (AF gD)
theorem ES (p0a:Bool) (p0ba:Int) (p0bb:Int) (p0bc:Int) (p1a:Bool) (p1ba:Int) (p1bb:Int) (p1bc:Int) (w:World):Calls Tryz.prog 153 ([.agg ⟨[.bool p0a,.int .i64 p0ba,.int .i64 p0bb,.int .i64 p0bc]⟩,.agg ⟨[.bool p1a,.int .i64 p1ba,.int .i64 p1bb,.int .i64 p1bc]⟩]:List Value).toArray w fun e w'=>e=.returned (.int .i64 (Ay p0a p0ba p0bb p0bc p1a p1ba p1bb p1bc))∧Below w.heap.size w w':=by
 refine Ab (fn:=Tryz.f153) (c:=Xr) (n:=11) ?_
 have K1:=Wk.start w
 refine BF Y8 K1 [(0,0)] fun w1 K2=>?_
 refine AK (p0a) (fun c2=>?_) (fun c2=>?_)
 ·refine AC nQ K2 [] fun w3 K3=>?_
  exact AM K3 (0,0) (.int .i64 9) (by unfold Ay; rw [c2] <;> rfl)
 ·refine AC gD K2 [(1,0),(0,1)] fun w4 K4=>?_
  refine Ak K4 (H1 p1a p1ba p1bb p1bc p0ba p0bb p0bc w4) fun w5 K5=>?_
  refine AC nP K5 [] fun w6 K6=>?_
  exact AM K6 (0,0) (.int .i64 (DC p1a p1ba p1bb p1bc p0ba p0bb p0bc)) (by unfold Ay; rw [c2] <;> rfl)
def Ey (p0a:Bool) (p0ba:Int) (p0bb:Int) (p0bc:Int) (p1a:Bool) (p1ba:Int) (p1bb:Int) (p1bc:Int):Int:=cond (cond (p0a) (p1a) (false)) (0) (Ay p0a p0ba p0bb p0bc p1a p1ba p1bb p1bc)
noncomputable def X3:Code:=Tryz.f155.body.getD .skip
def gX:List Item:=Ac 1 ([.code X3])
def ZO:List Item:=AB 60 (AO gX)
def nv:List Item:=AB 60 (AG ZO)
def gW:List Item:=AB 60 (AL ZO)
def nu:List Item:=AB 60 (AF gW)
theorem OE (p0a:Bool) (p0ba:Int) (p0bb:Int) (p0bc:Int) (p1a:Bool) (p1ba:Int) (p1bb:Int) (p1bc:Int) (w:World):Calls Tryz.prog 155 ([.agg ⟨[.bool p0a,.int .i64 p0ba,.int .i64 p0bb,.int .i64 p0bc]⟩,.agg ⟨[.bool p1a,.int .i64 p1ba,.int .i64 p1bb,.int .i64 p1bc]⟩]:List Value).toArray w fun e w'=>e=.returned (.int .i64 (Ey p0a p0ba p0bb p0bc p1a p1ba p1bb p1bc))∧Below w.heap.size w w':=by
 refine Ab (fn:=Tryz.f155) (c:=X3) (n:=14) ?_
 have K1:=Wk.start w
 refine Bw 1 gX [⟨w.heap.size,0,[.bool p0a,.int .i64 p0ba,.int .i64 p0bb,.int .i64 p0bc],26,true⟩,⟨w.heap.size + 1,0,[.bool p1a,.int .i64 p1ba,.int .i64 p1bb,.int .i64 p1bc],26,true⟩] K1 [] fun w1 K2=>?_
 refine Aj K2 [(1,0,0),(4,1,0)] [] K2.G (fun sp hsp=>by cases hsp) fun w2 E2 K3=>?_
 refine AC ZO K3 [] fun w3 K4=>?_
 refine AK (cond (p0a) (p1a) (false)) (fun c4=>?_) (fun c4=>?_)
 ·refine AC nv K4 [] fun w5 K5=>?_
  exact AM K5 (0,0) (.int .i64 0) (by unfold Ey; rw [c4] <;> rfl)
 ·refine AC gW K4 [(0,0),(1,0)] fun w6 K6=>?_
  refine Ak K6 (ES p0a p0ba p0bb p0bc p1a p1ba p1bb p1bc w6) fun w7 K7=>?_
  refine AC nu K7 [] fun w8 K8=>?_
  exact AM K8 (0,0) (.int .i64 (Ay p0a p0ba p0bb p0bc p1a p1ba p1bb p1bc)) (by unfold Ey; rw [c4] <;> rfl)
def Fh (p0a:Bool) (p0ba:Int) (p0bb:Int) (p0bc:Int) (p1a:Bool) (p1ba:Int) (p1bb:Int) (p1bc:Int):Int:=cond (!(p0a == p1a)) (9) (cond (cond (!(p0a)) (!((p0ba == p1ba) && ((p0bb == p1bb) && (p0bc == p1bc)))) (false)) (10) (0))
noncomputable def Xx:Code:=Tryz.f87.body.getD .skip
def ZG:List Item:=AB 60 ([.code Xx])
def nd:List Item:=AB 60 (AG ZG)
def gL:List Item:=Ac 3 (AL ZG)
def ZF:List Item:=AB 60 (AO gL)
def nb:List Item:=AB 60 (AG ZF)
def na:List Item:=AB 60 (AL ZF)
theorem OG (p0a:Bool) (p0ba:Int) (p0bb:Int) (p0bc:Int) (p1a:Bool) (p1ba:Int) (p1bb:Int) (p1bc:Int) (w:World):Calls Tryz.prog 87 ([.agg ⟨[.bool p0a,.int .i64 p0ba,.int .i64 p0bb,.int .i64 p0bc]⟩,.agg ⟨[.bool p1a,.int .i64 p1ba,.int .i64 p1bb,.int .i64 p1bc]⟩]:List Value).toArray w fun e w'=>e=.returned (.int .i64 (Fh p0a p0ba p0bb p0bc p1a p1ba p1bb p1bc))∧Below w.heap.size w w':=by
 refine Ab (fn:=Tryz.f87) (c:=Xx) (n:=20) ?_
 have K1:=Wk.start w
 refine Bv ZG [⟨w.heap.size,0,[.bool p0a,.int .i64 p0ba,.int .i64 p0bb,.int .i64 p0bc],26,true⟩,⟨w.heap.size + 1,0,[.bool p1a,.int .i64 p1ba,.int .i64 p1bb,.int .i64 p1bc],26,true⟩] K1 [(0,0),(1,0)] fun w1 K2=>?_
 refine AK (!(p0a == p1a)) (fun c2=>?_) (fun c2=>?_)
 ·refine AC nd K2 [] fun w3 K3=>?_
  exact AM K3 (0,0) (.int .i64 9) (by unfold Fh; rw [c2] <;> rfl)
 ·refine Ag 3 gL K2 [] fun w4 K4=>?_
  refine Aj K4 [(1,0,0),(5,0,1),(7,1,1)] [⟨8,[(15,.agg ⟨[.int .i64 p0ba,.int .i64 p0bb,.int .i64 p0bc]⟩),(17,.agg ⟨[.int .i64 p1ba,.int .i64 p1bb,.int .i64 p1bc]⟩)],.bool (!((p0ba == p1ba) && ((p0bb == p1bb) && (p0bc == p1bc)))),((!(p0a))) && (true)⟩] K4.G (fun sp hsp=>?_) fun w5 E5 K5=>?_
  ·rw [List.mem_singleton.1 hsp]
   exact Av fun _ E u _=>EC (k:=.neq) (T:=24) (a:=.agg ⟨[.int .i64 p0ba,.int .i64 p0bb,.int .i64 p0bc]⟩) (b:=.agg ⟨[.int .i64 p1ba,.int .i64 p1bb,.int .i64 p1bc]⟩) (Io u p0ba p0bb p0bc p1ba p1bb p1bc)
  refine AC ZF K5 [] fun w6 K6=>?_
  refine AK (cond (!(p0a)) (!((p0ba == p1ba) && ((p0bb == p1bb) && (p0bc == p1bc)))) (false)) (fun c7=>?_) (fun c7=>?_)
  ·refine AC nb K6 [] fun w8 K7=>?_
   exact AM K7 (0,0) (.int .i64 10) (by unfold Fh; rw [c2,c7] <;> rfl)
  ·refine AC na K6 [] fun w9 K8=>?_
   exact AM K8 (0,0) (.int .i64 0) (by unfold Fh; rw [c2,c7] <;> rfl)
def Ad (p0a:Int) (p0ca:Bool) (p0cba:Int) (p0cbb:Int) (p0cbc:Int):Bool×Int×Int×Int:=cond (p0a == 4) ((false,1,0,0)) ((p0ca,p0cba,p0cbb,p0cbc))
def Dg (r:Bool×Int×Int×Int):Value:=.agg ⟨[.bool (r.1),.int .i64 (r.2.1),.int .i64 (r.2.2.1),.int .i64 (r.2.2.2)]⟩
noncomputable def Xu:Code:=Tryz.f85.body.getD .skip
def ZD:List Item:=AB 60 ([.code Xu])
def nW:List Item:=AB 60 (AG ZD)
def nV:List Item:=AB 60 (AL ZD)
theorem Gz (p0a:Int) (p0b:List UInt8) (p0ca:Bool) (p0cba:Int) (p0cbb:Int) (p0cbc:Int) (p0d:Int) (p0eA:Option Addr) (p0en:Nat) (p0ec:Nat) (p0fa:Int) (p0fba:Int) (p0fbb:Int) (p0fca:Int) (p0fcb:Int) (p0fcc:Int) (p0fd:List UInt8) (p0fe:Int) (p0ff:Int) (p0fgA:Option Addr) (p0fgn:Nat) (p0fgc:Nat) (p0g:Int) (p0ha:Int) (p0hb:Int) (w:World):Calls Tryz.prog 85 ([.agg ⟨[.int .i64 p0a,.string ⟨⟨p0b⟩⟩,.bool p0ca,.int .i64 p0cba,.int .i64 p0cbb,.int .i64 p0cbc,.int .i64 p0d,.slice p0eA p0en p0ec,.int .i64 p0fa,.int .i64 p0fba,.int .i64 p0fbb,.int .i64 p0fca,.int .i64 p0fcb,.int .i64 p0fcc,.string ⟨⟨p0fd⟩⟩,.int .i64 p0fe,.int .i64 p0ff,.slice p0fgA p0fgn p0fgc,.int .i64 p0g,.int .i64 p0ha,.int .i64 p0hb]⟩]:List Value).toArray w fun e w'=>e=.returned (Dg (Ad p0a p0ca p0cba p0cbb p0cbc))∧Below w.heap.size w w':=by
 refine Ab (fn:=Tryz.f85) (c:=Xu) (n:=10) ?_
 have K1:=Wk.start w
 refine BF ZD K1 [(0,0)] fun w1 K2=>?_
 refine AK (p0a == 4) (fun c2=>?_) (fun c2=>?_)
 ·refine BF nW K2 [(1,0)] fun w3 K3=>?_
  exact AM K3 (1,0) (.agg ⟨[.bool false,.int .i64 1,.int .i64 0,.int .i64 0]⟩) (by unfold Ad; rw [c2] <;> rfl)
 ·refine BF nV K2 [(0,2),(1,0)] fun w4 K4=>?_
  exact AM K4 (1,0) (.agg ⟨[.bool p0ca,.int .i64 p0cba,.int .i64 p0cbb,.int .i64 p0cbc]⟩) (by unfold Ad; rw [c2] <;> rfl)
end
end Go.Proofs.YtmcpjkcggfmcmaaGreatDoor

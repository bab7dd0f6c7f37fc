/-
  Part 33 of a proof: contracts of functions.
-/
import Derived.Test.YtkjbdagicjbjjaaGreatTf32
set_option linter.all false
namespace Go.Proofs.YtkjbdagicjbjjaaGreat
noncomputable section
open Go.RowKit
set_option maxRecDepth 100000
set_option maxHeartbeats 1000000
abbrev Cr:=List UInt8×Int×List DP×Int×Int
abbrev KD:=Cr×Option Addr×Nat
abbrev Ch (x:KD):List Value:=[By (x.1.1),AI x.1.2.1,.slice x.2.1 x.1.2.2.1.length x.2.2,AI x.1.2.2.2.1,AI x.1.2.2.2.2]
abbrev rowsUse:=CU 7 CQ
def rowsSt (w:World) (A:Option Addr) (l:List Cr):Prop:=∃ rs,EF (fun e r=>∃ A c,r=Ch (e,A,c)∧rowsUse w A e.2.2.1) l rs∧DI Ca w 5 A rs
abbrev FT (A:Option Addr) (c:Nat) (l:List KD):Th:=Th.row 44 5 (fun e r=>r=Ch e) A c l
def Gf (x:KD):Th:=Bs x.2.1 x.2.2 x.1.2.2.1
theorem rowsSt.below {w w':World} {A:Option Addr} {l:List Cr} (h:rowsSt w A l) (B:Below w.heap.size w w'):rowsSt w' A l:=by
 obtain ⟨rs,a,h2⟩:=h
 exact ⟨rs,MY (fun e r _ ⟨A,c,hr,he⟩=>⟨A,c,hr,CU.below he B⟩) a,DI.below h2 B⟩
theorem rowsSt.all {w:World} {A:Option Addr} {l:List Cr} (h:rowsSt w A l) (a:0 < l.length):∃ g off,A=some ⟨g,off,none⟩∧g < w.heap.size∧∀ (i:Nat) e,l[i]?=some e→∃ b c,w.rangeAt g (off + i * 5) (Ch (e,b,c))∧rowsUse w b e.2.2.1:=by
 obtain ⟨rs,d,h2⟩:=h
 rcases h2 with h2 | ⟨g,off,rfl,_,hg,hc⟩
 ·rw [← FO d,h2] at a
  exact absurd a (Nat.lt_irrefl _)
 ·refine ⟨g,off,rfl,hg,fun i e hi=>?_⟩
  obtain ⟨r,hr,b,c,rfl,hx⟩:=N5 d hi
  exact ⟨b,c,fun j u hu=>hc i _ hr j u hu,hx⟩
theorem RI (e:DP):(CQ e).length=7:=rfl
theorem Ac.rowsUse {b:Nat} {w:World} {L:List Th} {A:Option Addr} {c:Nat} {l:List DP} (h:Ac b w L) (i:Nat) (hi:L[i]?=some (Bs A c l)):rowsUse w A l:=h.rowsF RI i hi
theorem Th.rowsUse {w:World} {A:Option Addr} {c:Nat} {l:List DP} (h:(Bs A c l).P w):rowsUse w A l:=by
 obtain ⟨rs,hr,ho⟩:=h
 have:=RR (FO hr) (Hx (fun e r he=>by rw [he]; exact RI e) hr) ho
 rw [Hj hr] at this
 exact this
theorem Ac.rowsSt {b:Nat} {w:World} {L:List Th} {A:Option Addr} {c:Nat} {sl:List KD} (h:Ac b w L) (i j:Nat) (hi:L[i]?=some (FT A c sl)) (a:L[j]?=some (Th.all (sl.map Gf))):rowsSt w A (sl.map (·.1)):=by
 have d:=h.rowsF (f:=Ch) (fun _=>rfl) i hi
 have h2:∀ x∈sl,Go.Proofs.YtkjbdagicjbjjaaGreat.rowsUse w x.2.1 x.1.2.2.1:=fun x hx=>Th.rowsUse ((h.all j _ a) (Gf x) (List.mem_map_of_mem hx))
 refine ⟨sl.map Ch,?_,d⟩
 clear d hi a
 induction sl with
 | nil=>trivial
 | cons x sl ih=>exact ⟨⟨x.2.1,x.2.2,rfl,h2 x (by simp)⟩,ih fun y e=>h2 y (by simp [e])⟩
def ADj (kn kd:Int):Option (List Ha)→Int×Int×Int
 | none=>(0,0,16)
 | some v=>EK v kn kd
def Bw (cl:Bool) (cm:List (BD×Int×Int)) (nm:List (List UInt8×Int×Int)) (sc:List (List UInt8×List Ha)) (pa:List Dn) (p:BD):Int×Int×Int:=
 cond cl (yY (AO cm p)) (cond (p.1 == 3) (nF (AO nm p.2.1)) (cond (p.1 == 4) (ADj p.2.2.2.1 p.2.2.2.2 (AO sc p.2.1)) (cond (p.1 == 20) (Hu pa p.2.1 p.2.2.1) (Lq pa p.2.1 p.2.2.1))))
theorem Qp (c:Bool) (b:List (BD×Int×Int)) (nm:List (List UInt8×Int×Int)) (a:List (List UInt8×GV)) (pa:List Dn):BX c b nm a pa=Bw c b nm (a.map fun q=>(q.1,q.2.1)) pa:=by
 funext p
 unfold BX Bw
 rw [Ec]
 cases AO a p.2.1 <;> rfl
def Ih (ins:List (List UInt8×Bool)):List DQ→List (List UInt8×Int×Int)→List (List UInt8×Int×Int)
 | [],m=>m
 | e :: r,m=>cond (cond (!(AO m e.1).isSome) ((AO ins e.1).getD false) false) (Ih ins r ((e.1,e.2.1,e.2.2) :: m)) (Ih ins r m)
def Dz (ds:List Df) (sc:List (List UInt8×List Ha)) (pa:List Dn) (h:Nat) (fnd:List (Nat×Bool)):List Nat→List (List UInt8×Int×Int)→List Cr→List Cr×Int
 | [],_,a=>(a,0)
 | i :: r,nm,a=>cond (!((AO fnd i).getD false)) (Dz ds sc pa h fnd r nm a)
   (cond (!((BA (Bw false [] nm sc pa) h (ds.getD i default) ([],[])).1.2.2 == 0)) ([],(BA (Bw false [] nm sc pa) h (ds.getD i default) ([],[])).1.2.2)
    (Dz ds sc pa h fnd r (cond (!(AO nm (ds.getD i default).name).isSome) (((ds.getD i default).name,(BA (Bw false [] nm sc pa) h (ds.getD i default) ([],[])).1.1,(BA (Bw false [] nm sc pa) h (ds.getD i default) ([],[])).1.2.1) :: nm) nm)
     (a++[((ds.getD i default).name,(ds.getD i default).frm,(BA (Bw false [] nm sc pa) h (ds.getD i default) ([],[])).2.2,(BA (Bw false [] nm sc pa) h (ds.getD i default) ([],[])).1.1,(BA (Bw false [] nm sc pa) h (ds.getD i default) ([],[])).1.2.1)])))
def Bm (n:List UInt8) (ds:List Df) (day:Int) (h:Nat) (ins:List DQ) (pa:List Dn) (nm:List UInt8):List Cr×Int:=
 cond (!(Cd n ds day == 0)) ([],Cd n ds day) (match AO (Bi n ds day).2.1 nm with
  | none=>([],7)
  | some r=>cond (!((DZ n ds day r.toNat).2 == 0)) ([],(DZ n ds day r.toNat).2) (Dz ds (Bi n ds day).2.2 pa h (DZ n ds day r.toNat).1 (Ag n ds day).1 (Ih (Bi n ds day).1 ins []) []))
def eQ (n:List UInt8) (ds:List Df) (day:Int) (q:List UInt8×Int):Prop:=∃ x,x∈C3 n ds day∧q=((ds.getD x default).name,(x:Int))∧Al (ds.getD x default)=true
theorem VZ {n:List UInt8} {ds:List Df} {day:Int}:∀ (a:List Nat) (s:IR),(∀ x∈a,x∈C3 n ds day)→(∀ q∈s.2.1,eQ n ds day q)→∀ q∈(Fv ds a s).2.1,eQ n ds day q
 | [],_,_,h=>h
 | x :: a,s,ha,h=>by
  rw [Fv]
  refine VZ a _ (fun y c=>ha y (by simp [c])) ?_
  have d:Al (ds.getD x default)=((ds.getD x default).kind == 3 || (ds.getD x default).kind == 4):=by
   unfold Al
   cases (ds.getD x default).kind == 3 <;> rfl
  unfold dW
  cases (ds.getD x default).kind == 1
  ·simp only [cond_false]
   cases (ds.getD x default).kind == 2
   ·simp only [cond_false]
    cases hc:((ds.getD x default).kind == 3 || (ds.getD x default).kind == 4)
    ·exact h
    ·simp only [cond_true]
     cases !(AO s.2.1 (ds.getD x default).name).isSome
     ·exact h
     ·intro q b
      rcases List.mem_cons.1 b with rfl | b
      ·exact ⟨x,ha x (by simp),rfl,d.trans hc⟩
      ·exact h q b
   ·simp only [cond_true]
    cases !(AO s.2.2 (ds.getD x default).name).isSome
    ·exact h
    ·exact h
  ·exact h
theorem Jm {n:List UInt8} {ds:List Df} {day:Int}:∀ q∈(Bi n ds day).2.1,eQ n ds day q:=VZ _ _ (fun _ hx=>hx) (fun q a=>by cases a)
theorem HQ {ds:List Df} {p1:Int}:∀ (es:List Nat) (a0:Int) (a:List Nat) (b:List (Nat×List Nat)),(∀ i∈a,Al (ds.getD i default)=true)→∀ i∈(Bl ds p1 es a0 a b).1,Al (ds.getD i default)=true
 | [],a0,a,b,h=>by rw [Bl]; exact h
 | e :: es,a0,a,b,h=>by
  rw [Bl]
  cases hc:!(Al (ds.getD e default))
  ·simp only [cond_false]
   cases !((Cf ds (An ds p1) e).2 == 0)
   ·exact HQ es a0 (a++[e]) _ fun i hi=>by
     rcases List.mem_append.1 hi with hi | hi
     ·exact h i hi
     ·rw [List.mem_singleton.1 hi]; simpa using hc
   ·exact fun j c=>(by cases c)
  ·exact HQ es a0 a b h
theorem LA {n:List UInt8} {ds:List Df} {p1:Int}:∀ i∈(Ag n ds p1).1,Al (ds.getD i default)=true:=by
 unfold Ag
 cases !((BJ n ds p1).2.2 == 0)
 ·have h2:=KQ (nodes:=(BJ n ds p1).1) (ns:=(BJ n ds p1).2.1) ((BJ n ds p1).1.length + 1) [] [] (fun j a=>(by cases a)) (Nat.zero_le _)
  have b:∀ i∈(BJ n ds p1).1,Al (ds.getD i default)=true:=by
   unfold BJ
   cases !(DF n ds p1 == 0)
   ·exact HQ _ _ _ _ (fun j a=>(by cases a))
   ·exact fun j a=>(by cases a)
  exact fun i hi=>b i (h2.1 i hi)
 ·exact fun j a=>(by cases a)
def P0:Op→Bool
 | .build _ _=>true
 | _=>false
attribute [local irreducible] A8 BL AC AD AF Ao AY AL Aq Bb Cn BR Dx Cm BK At Fr
noncomputable def WF:Code:=Tryz.f7.body.getD .skip
def ed:=AA 60 [.code WF]
def MR:=AA 60 (AC ed)
def tz:=AA 60 (AD MR)
def S6:=AA (Ak (Ce) 90 (AF MR)) (AF MR)
def Ol:=AA 60 (AC S6)
def tx:=AA 60 (AD Ol)
def ec:=AA 60 (AF Ol)
def Ok:=AA 60 (AC ec)
def tw:=AA 60 (AD Ok)
def S5:=AA (Ak (EA) 90 (AF Ok)) (AF Ok)
def NE:=AA 60 (AC S5)
def ND:=AA 60 (Ao NE)
def Qa:=AA (Ak (Aa) 90 (AD ND)) (AD ND)
def QZ:=AA (Ak (Ce) 90 (AC (AC Qa))) (AC (AC Qa))
def XP:=Ai 15 (AC QZ)
def QY:=AA 60 (AL XP)
def XO:=AA (Ak (EN) 90 (AD QY)) (AD QY)
def LF:=AA 60 (AF ND)
def NC:=AA 60 (Ao LF)
def QX:=AA (Ak (Aa) 90 (AD NC)) (AD NC)
def QW:=AA (Ak (Ce) 90 (AC (AC QX))) (AC (AC QX))
def QV:=AA 60 (AC QW)
def QU:=AA (Ak (Aa) 90 (AF QV)) (AF QV)
def QT:=AA (Ak (P0) 90 (AC (AC QU))) (AC (AC QU))
def XN:=AA (Ak (Fw 59) 90 (QT)) (QT)
def XM:=AA 60 (AC XN)
def NB:=AA 60 (AC XM)
def tG:=AA 60 (AD NB)
def NA:=AA (Ak (BS) 90 (AF NB)) (AF NB)
def QS:=AA (Ak (Ce) 90 (AC NA)) (AC NA)
def QR:=AA 60 (AC QS)
def XL:=AA (Ak (EN) 90 (AD QR)) (AD QR)
def tF:=AA 60 (AF NC)
theorem Kr (a:List UInt8) (dA:Option Addr) (ds:List Df) (dc:Nat) (day:Int) (f:Nat) (iA:Option Addr) (ins:List DQ) (ic:Nat) (pA:Option Addr) (pa:List Dn) (pc:Nat) (nm:List UInt8) (w:World) (p0:rowsDf w dA ds) (n0:ds.length≤1000000000) (a2:ds.length≤dc) (hs:a.length≤4294967296) (ht:∀ d∈ds,FU d) (z0:∀ d∈ds,DR d.body) (hn:∀ d∈ds,nE d.body≤1000000) (t3:∀ d∈ds,Al d=true→GL f d.body)
  (k3:tM w iA ins) (s0:ins.length≤1000000000) (l3:∀ e∈ins,e.1.length≤4294967296) (p2:EE w pA pa) (e3:pa.length≤4294967296) (a3:∀ e∈pa,e.2.length≤4294967296) (u2:nm.length≤4294967296) :
  Calls Tryz.prog 7 ([.agg ⟨[By a,.slice dA ds.length dc]⟩,AI day,.slice iA ins.length ic,.slice pA pa.length pc,By nm]:List Value).toArray w fun e w'=>∃ rA rc,∃ (sl:List KD),e=.returned (.tuple #[.slice rA sl.length rc,AI (Bm a ds day f ins pa nm).2])∧sl.map (·.1)=(Bm a ds day f ins pa nm).1∧Below w.heap.size w w'∧Ac w.heap.size w' [FT rA rc sl,Th.all (sl.map Gf)]:=by
 refine AR (args:=[.agg ⟨[By a,.slice dA ds.length dc]⟩,AI day,.slice iA ins.length ic,.slice pA pa.length pc,By nm]) (fn:=Tryz.f7) (c:=WF) (n:=143) ?_
 have K0:=Wk.start w
 have s:(Bm a ds day f ins pa nm)=cond (!(Cd a ds day == 0)) ([],Cd a ds day) (match AO (Bi a ds day).2.1 nm with
  | none=>([],7)
  | some r=>cond (!((DZ a ds day r.toNat).2 == 0)) ([],(DZ a ds day r.toNat).2) (Dz ds (Bi a ds day).2.2 pa f (DZ a ds day r.toNat).1 (Ag a ds day).1 (Ih (Bi a ds day).1 ins []) [])):=rfl
 refine Af ed [⟨w.heap.size,0,[By a,.slice dA ds.length dc],27,true⟩] K0 [(0,0)] fun w1 K1=>?_
 refine A7 (args:=[.agg ⟨[By a,.slice dA ds.length dc]⟩,AI day]) (Nj a dA ds dc day w w1 p0 K1.B n0 a2 hs ht z0 hn) fun en w2 hh=>?_
 rcases hh with ⟨rfl,v2,b2⟩ | ⟨oA,oc,b1,b2,b3,sx,q2,rfl,k1,l1,bw,Hn⟩
 ·refine ⟨_,rfl,?_⟩
  have K2:=K1.below b2
  have hc:(!(Cd a ds day == 0))=true:=by simpa using v2
  rw [hc] at s
  replace s:(Bm a ds day f ins pa nm)=([],Cd a ds day):=s
  refine Af MR [⟨w.heap.size,0,[By a,.slice dA ds.length dc],27,true⟩,⟨w2.heap.size,0,(CF none 0 0 none 0 0 none none none),72,true⟩] K2 [(1,0)] fun w3 K3=>?_
  refine AG (!(Cd a ds day == 0)) (fun _=>?_) (fun h0=>by rw [hc] at h0; cases h0)
  refine AB tz K3 [] fun w4 K4=>?_
  refine AJ K4 (0,0) (.tuple #[.slice none 0 0,AI (Cd a ds day)]) ⟨none,0,[],by rw [s]; rfl,by rw [s]; rfl,K4.B,?_⟩
  exact ((K4.own0 (L':=[]) [] rfl (by decide)).addNil 44 5 (fun e r=>r=Ch e)).addFam Gf
 refine ⟨_,rfl,?_⟩
 have K2:=K1.join bw Hn
 have d2:(!(Cd a ds day == 0))=false:=by rw [q2]; rfl
 rw [d2] at s
 clear Hn d2
 have m1:=Jm (n:=a) (ds:=ds) (day:=day)
 have s2:=(Rn (n:=a) (p1:=day) hn)
 have t2:=LA (n:=a) (ds:=ds) (p1:=day)
 generalize hws:w2=ws at K2 ⊢
 replace s:(Bm a ds day f ins pa nm)=(match AO (Bi a ds day).2.1 nm with
  | none=>([],7)
  | some r=>cond (!((DZ a ds day r.toNat).2 == 0)) ([],(DZ a ds day r.toNat).2) (Dz ds (Bi a ds day).2.2 pa f (DZ a ds day r.toNat).1 (Ag a ds day).1 (Ih (Bi a ds day).1 ins []) [])):=s
 generalize (Bi a ds day)=ps at s k1 m1 K2 ⊢
 refine Af MR [⟨w.heap.size,0,[By a,.slice dA ds.length dc],27,true⟩,⟨ws.heap.size,0,(CF dA ds.length dc oA (Ag a ds day).1.length oc (some b1) (some b2) (some b3)),72,true⟩] K2 [(1,0)] fun w3 K3=>?_
 refine AG false (fun h0=>by cases h0) (fun _=>?_)
 refine Ae Ce S6 K3 [(1,3)] fun w4 K4=>?_
 refine C4 (Dp FB (o:=Br S6) (b:=b2) (m:=ps.2.1) (x:=.tmp 42) (y:=.tmp 43) (by kernel_rfl) rfl (by kernel_rfl) nm (by kernel_rfl) u2 (K4.H.all (K4.ix 2) _ (K4.at 2 rfl))) ?_
 cases hlk:AO ps.2.1 nm with
 | none=>
  rw [hlk] at s
  refine AB Ol K4 [] fun w5 K5=>?_
  refine AG true (fun _=>?_) (fun h0=>by cases h0)
  refine AB tx K5 [] fun w6 K6=>?_
  refine AJ K6 (0,0) (.tuple #[.slice none 0 0,AI 7]) ⟨none,0,[],by rw [s]; rfl,by rw [s]; rfl,K6.B,?_⟩
  exact ((K6.own0 (L':=[]) [] rfl (by decide)).addNil 44 5 (fun e r=>r=Ch e)).addFam Gf
 | some r=>
 rw [hlk] at s
 obtain ⟨x,m2,o2,q4⟩:=m1 _ (FI hlk)
 obtain rfl:r=(x:Int):=(Prod.mk.inj o2).2
 have l2:x < ds.length:=Fm _ m2
 replace s:(Bm a ds day f ins pa nm)=cond (!((DZ a ds day x).2 == 0)) ([],(DZ a ds day x).2) (Dz ds ps.2.2 pa f (DZ a ds day x).1 (Ag a ds day).1 (Ih ps.1 ins []) []):=s
 refine AB Ol K4 [] fun w5 K5=>?_
 refine AG false (fun h0=>by cases h0) (fun _=>?_)
 refine AB ec K5 [(0,0)] fun w6 K6=>?_
 refine A7 (args:=[.agg ⟨[By a,.slice dA ds.length dc]⟩,AI day,AI (x:Int)]) (W8 a dA ds dc day x w6 (p0.below K6.B) n0 l2 hs ht z0 hn) fun en w7 hh=>?_
 obtain ⟨rb,rfl,b7,n1,Hn⟩:=hh
 refine ⟨_,rfl,?_⟩
 have K7:=K6.join b7 Hn
 refine AB Ok K7 [] fun w8 K8=>?_
 refine AG (!((DZ a ds day x).2 == 0)) (fun c1=>?_) (fun c1=>?_) <;> rw [c1] at s
 ·replace s:(Bm a ds day f ins pa nm)=([],(DZ a ds day x).2):=s
  refine AB tw K8 [] fun w9 K9=>?_
  refine AJ K9 (0,0) (.tuple #[.slice none 0 0,AI (DZ a ds day x).2]) ⟨none,0,[],by rw [s]; rfl,by rw [s]; rfl,K9.B,?_⟩
  exact ((K9.own0 (L':=[]) [] rfl (by decide)).addNil 44 5 (fun e r=>r=Ch e)).addFam Gf
 obtain ⟨fb,rfl⟩:=n1 (by simpa using c1)
 replace s:(Bm a ds day f ins pa nm)=Dz ds ps.2.2 pa f (DZ a ds day x).1 (Ag a ds day).1 (Ih ps.1 ins []) []:=s
 generalize (DZ a ds day x).1=fnd at s K8
 replace K8:Wk w w8 [⟨w.heap.size,0,[By a,.slice dA ds.length dc],27,true⟩,⟨ws.heap.size,0,(CF dA ds.length dc oA (Ag a ds day).1.length oc (some b1) (some b2) (some b3)),72,true⟩] [BN oA oc (Ag a ds day).1,F2.th b1 ps.1,FB.th b2 ps.2.1,EM.th b3 (sx.map fun q=>(q.1,Ei q.2)),D0.th fb fnd] []:=K8
 refine Ae EA S5 K8 [] fun w9 K9=>?_
 refine Ey Eb K9.H (Br S5) (by kernel_rfl) (t:=79) (by kernel_rfl) fun i0 _ Hn g1=>?_
 have g0:=K9.add g1 Hn
 generalize w9.heap.size=nb at g0 ⊢
 refine AB NE g0 [] fun k0 q0=>?_
 refine AU [(3,.slice pA pa.length pc),(5,BY (w.heap.size)),(12,BY (ws.heap.size)),(16,.map (some fb)),(17,.map (some nb)),(60,.slice iA ins.length ic),(61,AI (ins.length:Int)),(62,AI ((0:Nat):Int))] fun f4=>?_
 refine Bd (by kernel_rfl) (fun E wx=>∃ (j:Nat) (m:List (List UInt8×Int×Int)) (E0:Nat→Value),j≤ins.length∧E=BC E0 [(3,.slice pA pa.length pc),(5,BY (w.heap.size)),(12,BY (ws.heap.size)),(16,.map (some fb)),(17,.map (some nb)),(60,.slice iA ins.length ic),(61,AI (ins.length:Int)),(62,AI (j:Int))]∧(Bm a ds day f ins pa nm)=Dz ds ps.2.2 pa f fnd (Ag a ds day).1 (Ih ps.1 (ins.drop j) m) []∧m.length≤j∧Wk w wx [⟨w.heap.size,0,[By a,.slice dA ds.length dc],27,true⟩,⟨ws.heap.size,0,(CF dA ds.length dc oA (Ag a ds day).1.length oc (some b1) (some b2) (some b3)),72,true⟩] [BN oA oc (Ag a ds day).1,F2.th b1 ps.1,FB.th b2 ps.2.1,EM.th b3 (sx.map fun q=>(q.1,Ei q.2)),D0.th fb fnd,Eb.th nb m] []) (fun E _=>ins.length - AK (E 62)) ⟨0,[],f4,Nat.zero_le _,rfl,s,Nat.le_refl _,q0⟩ ?_
 clear q0 g0 K9 K8 K7 K6 K5 K4 K3 K2 K1 s Hn c1 n1
 rintro E wx ⟨j,m,E0,hj,rfl,s,o1,K1⟩ b0
 refine AB ND K1 [] fun w2 K2=>?_
 refine AG (decide ((j:Int) < (ins.length:Int))) (fun c1=>?_) (fun c1=>?_)
 ·have c0:j < ins.length:=by have:=of_decide_eq_true c1; omega
  obtain ⟨e,he⟩:∃ e,ins[j]?=some e:=⟨_,List.getElem?_eq_getElem c0⟩
  have f1:ins.drop j=e :: ins.drop (j + 1):=by
   have he:ins[j]=e:=(List.getElem?_eq_some_iff.1 he).2
   rw [← List.getElem_cons_drop c0,he]
  rw [f1,Ih] at s
  have e1:=l3 e (List.mem_of_getElem? he)
  obtain ⟨gi,fi,rfl,o3,n3⟩:=k3.all (by omega)
  have r0:=n3 j _ he
  refine Ae Aa Qa K2 [] fun w3 K3=>?_
  refine Au (g:=gi) (off:=fi) (cap:=ic) (sz:=3) (k:=j) (len:=ins.length) (some 64) c0 Tryz.underlying33 ?_
  refine BI 81 gi (fi + j * 3) (F4 e) (some 65) (Ab r0 o3 K3.B) ?_
  refine CA Ce QZ [⟨w.heap.size,0,[By a,.slice dA ds.length dc],27,true⟩,⟨ws.heap.size,0,(CF dA ds.length dc oA (Ag a ds day).1.length oc (some b1) (some b2) (some b3)),72,true⟩,⟨w3.heap.size,0,F4 e,81,true⟩] K3 [(2,0),(2,0)] fun w4 K4=>?_
  refine C4 (Dp Eb (o:=Br QZ) (b:=nb) (m:=m) (x:=.tmp 67) (y:=.tmp 69) (by kernel_rfl) rfl (by kernel_rfl) e.1 (by kernel_rfl) e1 (K4.H.all (K4.ix 5) _ (K4.at 5 rfl))) ?_
  refine Bp 15 XP [⟨w.heap.size,0,[By a,.slice dA ds.length dc],27,true⟩,⟨ws.heap.size,0,(CF dA ds.length dc oA (Ag a ds day).1.length oc (some b1) (some b2) (some b3)),72,true⟩,⟨w3.heap.size,0,F4 e,81,true⟩,⟨w4.heap.size,0,BP ((AO m e.1).getD Eb.z),41,true⟩] K4 [(3,0)] fun w5 K5=>?_
  refine Ap K5 (mem:=[⟨w.heap.size,0,[By a,.slice dA ds.length dc],27,true⟩,⟨ws.heap.size,0,(CF dA ds.length dc oA (Ag a ds day).1.length oc (some b1) (some b2) (some b3)),72,true⟩,⟨w3.heap.size,0,F4 e,81,true⟩]) [(4,1,2),(6,2,0)] [⟨7,[(77,.map (some b1)),(79,By (e.1))],.bool ((AO ps.1 e.1).getD false),(!(AO m e.1).isSome) && true⟩] (fun e' u1=>K5.G e' (by simp only [List.mem_cons,List.not_mem_nil,or_false] at u1 ⊢; rcases u1 with rfl | rfl | rfl <;> simp)) (fun sp n2=>?_) fun w6 E6 K6=>?_
  ·rw [List.mem_singleton.1 n2]
   exact BG fun _ E u hu=>Ff F2 (x:=.tmp 77) (y:=.tmp 79) (by kernel_rfl) rfl (by kernel_rfl) e.1 (by kernel_rfl) e1 (BT.below (S:=F2) (K5.H.all (K5.ix 1) _ (K5.at 1 rfl)) hu)
  refine AB QY K6 [] fun w7 K7=>?_
  refine AG (cond (!(AO m e.1).isSome) ((AO ps.1 e.1).getD false) false) (fun c2=>?_) (fun c2=>?_) <;> rw [c2] at s
  ·replace s:(Bm a ds day f ins pa nm)=Dz ds ps.2.2 pa f fnd (Ag a ds day).1 (Ih ps.1 (ins.drop (j + 1)) ((e.1,e.2.1,e.2.2) :: m)) []:=s
   refine Ae EN XO K7 [(2,0),(2,1)] fun w8 K8=>?_
   refine Fj Eb K8.H (K8.ix 5) (K8.at 5 rfl) e.1 (e.2.1,e.2.2) e1 trivial (Br XO) (by kernel_rfl) (t:=79) (x:=.tmp 82) (y:=.tmp 84) (z:=.tmp 86) (by kernel_rfl) rfl (by kernel_rfl) (by kernel_rfl) (by kernel_rfl) (by omega) fun w9 Hn b9=>?_
   have K9:=K8.put 5 (by simp) b9 Hn
   refine AB (AY NE) K9 [] fun i0 g0=>?_
   refine AU [(3,.slice pA pa.length pc),(5,BY (w.heap.size)),(12,BY (ws.heap.size)),(16,.map (some fb)),(17,.map (some nb)),(60,.slice (some ⟨gi,fi,none⟩) ins.length ic),(61,AI (ins.length:Int)),(62,AI (IntKind.i64.wrap ((j:Int) + 1)))] fun i1=>?_
   rw [Bc j (by omega)]
   refine b0 _ _ ⟨j + 1,(e.1,e.2.1,e.2.2) :: m,i1,c0,rfl,s,by rw [List.length_cons]; omega,g0.pk [0,1] [0,1,2,3,4,5]⟩ ?_
   show ins.length - AK (AI ((j + 1:Nat):Int)) < ins.length - AK (AI (j:Int))
   simp only [AK]
   omega
  ·replace s:(Bm a ds day f ins pa nm)=Dz ds ps.2.2 pa f fnd (Ag a ds day).1 (Ih ps.1 (ins.drop (j + 1)) m) []:=s
   refine AB (AY NE) K7 [] fun i0 g0=>?_
   refine AU [(3,.slice pA pa.length pc),(5,BY (w.heap.size)),(12,BY (ws.heap.size)),(16,.map (some fb)),(17,.map (some nb)),(60,.slice (some ⟨gi,fi,none⟩) ins.length ic),(61,AI (ins.length:Int)),(62,AI (IntKind.i64.wrap ((j:Int) + 1)))] fun i1=>?_
   rw [Bc j (by omega)]
   refine b0 _ _ ⟨j + 1,m,i1,c0,rfl,s,by omega,g0.pk [0,1] [0,1,2,3,4,5]⟩ ?_
   show ins.length - AK (AI ((j + 1:Nat):Int)) < ins.length - AK (AI (j:Int))
   simp only [AK]
   omega
 ·have q1:j=ins.length:=by have:=of_decide_eq_false c1; omega
  rw [q1,List.drop_length,Ih] at s
  have K3:=(K2.addNil 44 5 (fun (e:KD) r=>r=Ch e)).addFam Gf
  refine AB LF K3 [(1,1)] fun w4 K4=>?_
  replace K4:Wk w w4 [⟨w.heap.size,0,[By a,.slice dA ds.length dc],27,true⟩,⟨ws.heap.size,0,(CF dA ds.length dc oA (Ag a ds day).1.length oc (some b1) (some b2) (some b3)),72,true⟩] [BN oA oc (Ag a ds day).1,F2.th b1 ps.1,FB.th b2 ps.2.1,EM.th b3 (sx.map fun q=>(q.1,Ei q.2)),D0.th fb fnd,Eb.th nb m,FT none 0 ([]:List KD),Th.all (([]:List KD).map Gf)] []:=K4
  refine AU [(3,.slice pA pa.length pc),(5,BY (w.heap.size)),(12,BY (ws.heap.size)),(16,.map (some fb)),(17,.map (some nb)),(22,.slice none ([]:List KD).length 0),(89,.slice oA (Ag a ds day).1.length oc),(90,AI ((Ag a ds day).1.length:Int)),(91,AI ((0:Nat):Int))] fun E4=>?_
  refine Bd (by kernel_rfl) (fun E wx=>∃ (k:Nat) (m:List (List UInt8×Int×Int)) (sl:List KD) (sA:Option Addr) (sc:Nat) (E0:Nat→Value),k≤(Ag a ds day).1.length∧E=BC E0 [(3,.slice pA pa.length pc),(5,BY (w.heap.size)),(12,BY (ws.heap.size)),(16,.map (some fb)),(17,.map (some nb)),(22,.slice sA sl.length sc),(89,.slice oA (Ag a ds day).1.length oc),(90,AI ((Ag a ds day).1.length:Int)),(91,AI (k:Int))]∧(Bm a ds day f ins pa nm)=Dz ds ps.2.2 pa f fnd ((Ag a ds day).1.drop k) m (sl.map (·.1))∧m.length≤ins.length + k∧sl.length≤k∧Wk w wx [⟨w.heap.size,0,[By a,.slice dA ds.length dc],27,true⟩,⟨ws.heap.size,0,(CF dA ds.length dc oA (Ag a ds day).1.length oc (some b1) (some b2) (some b3)),72,true⟩] [BN oA oc (Ag a ds day).1,F2.th b1 ps.1,FB.th b2 ps.2.1,EM.th b3 (sx.map fun q=>(q.1,Ei q.2)),D0.th fb fnd,Eb.th nb m,FT sA sc sl,Th.all (sl.map Gf)] []) (fun E _=>(Ag a ds day).1.length - AK (E 91)) ⟨0,m,[],none,0,E4,Nat.zero_le _,rfl,s,by omega,Nat.le_refl _,K4⟩ ?_
  clear K4 K3 K2 K1 s o1 b0 c1 q1 hj
  rintro E wx ⟨k,m,sl,sA,sc,E0,hk,rfl,s,o1,t4,K1⟩ b0
  refine AB NC K1 [] fun w2 K2=>?_
  refine AG (decide ((k:Int) < ((Ag a ds day).1.length:Int))) (fun c1=>?_) (fun c1=>?_)
  ·have c0:k < (Ag a ds day).1.length:=by have:=of_decide_eq_true c1; omega
   obtain ⟨i,hi⟩:∃ e,(Ag a ds day).1[k]?=some e:=⟨_,List.getElem?_eq_getElem c0⟩
   have f1:(Ag a ds day).1.drop k=i :: (Ag a ds day).1.drop (k + 1):=by
    have he:(Ag a ds day).1[k]=i:=(List.getElem?_eq_some_iff.1 hi).2
    rw [← List.getElem_cons_drop c0,he]
   rw [f1,Dz] at s
   have t1:=List.mem_of_getElem? hi
   have s0:i < ds.length:=s2.1 i t1
   have m3:=t2 i t1
   obtain ⟨go,fo,rfl,x4,v4⟩:=(K2.H.rowsNat (K2.ix 0) (K2.at 0 rfl)).all (by omega)
   refine Ae Aa QX K2 [] fun w3 K3=>?_
   obtain ⟨g3,f3,h3,z4,v3⟩:=(K3.H.rowsNat (K3.ix 0) (K3.at 0 rfl)).all (by omega)
   obtain ⟨rfl,rfl⟩:go=g3∧fo=f3:=by injection h3 with h3; injection h3 with h3 h4; exact ⟨h3,h4⟩
   refine Au (g:=go) (off:=fo) (cap:=oc) (sz:=1) (k:=k) (len:=(Ag a ds day).1.length) (some 93) c0 Tryz.underlying22 ?_
   refine Dh 3 go (fo + k * 1) (AI (i:Int)) (some 94) (by simpa using v3 k _ hi 0 _ rfl) ?_
   refine Ae Ce QW K3 [] fun w4 K4=>?_
   refine C4 (Ff D0 (o:=Br QW) (b:=fb) (m:=fnd) (x:=.tmp 95) (y:=.tmp 96) (by kernel_rfl) rfl (by kernel_rfl) i (by kernel_rfl) (by show i≤_; omega) (K4.H.all (K4.ix 4) _ (K4.at 4 rfl))) ?_
   refine AB QV K4 [] fun w5 K5=>?_
   refine AG (!((AO fnd i).getD false)) (fun c2=>?_) (fun c2=>?_) <;> rw [c2] at s
   ·replace s:(Bm a ds day f ins pa nm)=Dz ds ps.2.2 pa f fnd ((Ag a ds day).1.drop (k + 1)) m (sl.map (·.1)):=s
    refine AB (AY LF) K5 [] fun wa Ka=>?_
    refine AU [(3,.slice pA pa.length pc),(5,BY (w.heap.size)),(12,BY (ws.heap.size)),(16,.map (some fb)),(17,.map (some nb)),(22,.slice sA sl.length sc),(89,.slice (some ⟨go,fo,none⟩) (Ag a ds day).1.length oc),(90,AI ((Ag a ds day).1.length:Int)),(91,AI (IntKind.i64.wrap ((k:Int) + 1)))] fun Ea=>?_
    rw [Bc k (by omega)]
    refine b0 _ _ ⟨k + 1,m,sl,sA,sc,Ea,c0,rfl,s,by omega,by omega,Ka.pk [0,1] [0,1,2,3,4,5,6,7]⟩ ?_
    show (Ag a ds day).1.length - AK (AI ((k + 1:Nat):Int)) < (Ag a ds day).1.length - AK (AI (k:Int))
    simp only [AK]
    omega
   replace s:(Bm a ds day f ins pa nm)=cond (!((BA (Bw false [] m ps.2.2 pa) f (ds.getD i default) ([],[])).1.2.2 == 0)) ([],(BA (Bw false [] m ps.2.2 pa) f (ds.getD i default) ([],[])).1.2.2)
    (Dz ds ps.2.2 pa f fnd ((Ag a ds day).1.drop (k + 1)) (cond (!(AO m (ds.getD i default).name).isSome) (((ds.getD i default).name,(BA (Bw false [] m ps.2.2 pa) f (ds.getD i default) ([],[])).1.1,(BA (Bw false [] m ps.2.2 pa) f (ds.getD i default) ([],[])).1.2.1) :: m) m)
     (sl.map (·.1)++[((ds.getD i default).name,(ds.getD i default).frm,(BA (Bw false [] m ps.2.2 pa) f (ds.getD i default) ([],[])).2.2,(BA (Bw false [] m ps.2.2 pa) f (ds.getD i default) ([],[])).1.1,(BA (Bw false [] m ps.2.2 pa) f (ds.getD i default) ([],[])).1.2.1)])):=s
   obtain ⟨gd,fd,rfl,p3,x1⟩:=p0.all (by omega)
   have z1:ds[i]?=some (ds.getD i default):=getD_some default s0
   have t0:=Dt (l:=ds) s0
   obtain ⟨A1,d0,A2,c2,r0,x3,e2⟩:=x1 i _ z1
   refine Ae Aa QU K5 [(0,1)] fun w6 K6=>?_
   refine Au (g:=gd) (off:=fd) (cap:=dc) (sz:=21) (k:=i) (len:=ds.length) (some 102) s0 Tryz.underlying25 ?_
   refine BI 59 gd (fd + i * 21) (Be (ds.getD i default) A1 d0 A2 c2) (some 103) (Ab r0 p3 K6.B) ?_
   have d1:=(ht _ t0).2
   have a1:=t3 _ t0 m3
   have x2:=hn _ t0
   clear z1 t0 x1
   generalize ds.getD i default=d at s r0 x3 e2 d1 a1 x2 ⊢
   refine CA P0 QT [⟨w.heap.size,0,[By a,.slice (some ⟨gd,fd,none⟩) ds.length dc],27,true⟩,⟨ws.heap.size,0,(CF (some ⟨gd,fd,none⟩) ds.length dc (some ⟨go,fo,none⟩) (Ag a ds day).1.length oc (some b1) (some b2) (some b3)),72,true⟩,⟨w6.heap.size,0,Be d A1 d0 A2 c2,59,true⟩] K6 [(2,0),(1,4)] fun w7 K7=>?_
   refine AU [(3,.slice pA pa.length pc),(5,BY (w.heap.size)),(12,BY (ws.heap.size)),(16,.map (some fb)),(17,.map (some nb)),(22,.slice sA sl.length sc),(25,BY (w6.heap.size)),(89,.slice (some ⟨go,fo,none⟩) (Ag a ds day).1.length oc),(90,AI ((Ag a ds day).1.length:Int)),(91,AI (k:Int)),(104,.map (some nb)),(106,.map (some b3)),(107,.slice pA pa.length pc)] fun E7=>?_
   have KF:=Wk.start w7
   refine CA (Fw 59) XN [(Cu w7.heap.size false none (some nb) (some b3) pA pa.length pc none none 0 0)] KF [(0,0)] fun w8 K8=>?_
   have v1:=K7.ent 2 rfl
   refine BI 59 w6.heap.size 0 (Be d A1 d0 A2 c2) (some 110) (Ab (GH v1) v1.1 K8.B) ?_
   refine AB XM K8 [] fun w9 K9=>?_
   have q3:rowsEx w7 A2 d.body.ks:=e2.below K7.B
   refine A7 (args:=[BY (w7.heap.size),.agg ⟨Be d A1 d0 A2 c2⟩]) (Mu w7 w7.heap.size false none (some nb) (some b3) pA pa pc [] m sx (fun p hp=>by cases hp) rfl (K7.H.all (K7.ix 5) _ (K7.at 5 rfl)) (K7.H.all (K7.ix 3) _ (K7.at 3 rfl)) (fun q hq=>⟨CU.below (l1 q hq).1 K7.B,(l1 q hq).2⟩) (p2.below K7.B) e3 a3 f d a1 [] none [] none [] 0 A1 d0 A2 c2 w9 q3 (by simp only [List.length_nil]; omega) (by simp only [List.length_nil]; omega) (fun p hp=>by cases hp) K9.B ((Ac.add K9.H (CP.thO none []) rfl (fun _ h=>h)).addNil 94 7 (fun e r=>r=CQ e))) fun en i0 hh=>?_
   obtain ⟨j0,a0,v,rfl,g1,x0⟩:=hh
   refine ⟨_,rfl,?_⟩
   rw [Qp,k1] at x0 ⊢
   generalize hR:(BA (Bw false [] m ps.2.2 pa) f d ([],[]))=rq at s x0 ⊢
   obtain ⟨⟨r1,r2,r3⟩,s1⟩:=rq
   have g0:Wk w i0 [⟨w.heap.size,0,[By a,.slice (some ⟨gd,fd,none⟩) ds.length dc],27,true⟩,⟨ws.heap.size,0,(CF (some ⟨gd,fd,none⟩) ds.length dc (some ⟨go,fo,none⟩) (Ag a ds day).1.length oc (some b1) (some b2) (some b3)),72,true⟩,⟨w6.heap.size,0,Be d A1 d0 A2 c2,59,true⟩,(Cu w7.heap.size false none (some nb) (some b3) pA pa.length pc j0 a0 s1.2.length v)] ([BN (some ⟨go,fo,none⟩) oc (Ag a ds day).1,F2.th b1 ps.1,FB.th b2 ps.2.1,EM.th b3 (sx.map fun q=>(q.1,Ei q.2)),D0.th fb fnd,Eb.th nb m,FT sA sc sl,Th.all (sl.map Gf)]++[CP.thO j0 s1.1,Bs a0 v s1.2]) []:=K7.joinE g1 x0
   clear x0 hR
   refine Af NB [⟨w.heap.size,0,[By a,.slice (some ⟨gd,fd,none⟩) ds.length dc],27,true⟩,⟨ws.heap.size,0,(CF (some ⟨gd,fd,none⟩) ds.length dc (some ⟨go,fo,none⟩) (Ag a ds day).1.length oc (some b1) (some b2) (some b3)),72,true⟩,⟨w6.heap.size,0,Be d A1 d0 A2 c2,59,true⟩,(Cu w7.heap.size false none (some nb) (some b3) pA pa.length pc j0 a0 s1.2.length v),⟨i0.heap.size,0,BP (r1,r2),41,true⟩] g0 [(4,0)] fun k0 q0=>?_
   refine AG (!(r3 == 0)) (fun c3=>?_) (fun c3=>?_)
   ·replace s:(Bm a ds day f ins pa nm)=([],r3):=by rw [s]; show cond (!(r3 == 0)) _ _=_; rw [c3]; rfl
    refine AB tG q0 [] fun k2 e0=>?_
    refine AJ e0 (0,0) (.tuple #[.slice none 0 0,AI r3]) ⟨none,0,[],by rw [s]; rfl,by rw [s]; rfl,e0.B,?_⟩
    exact ((e0.own0 (L':=[]) [] rfl (by decide)).addNil 44 5 (fun e r=>r=Ch e)).addFam Gf
   replace s:(Bm a ds day f ins pa nm)=Dz ds ps.2.2 pa f fnd ((Ag a ds day).1.drop (k + 1)) (cond (!(AO m d.name).isSome) ((d.name,r1,r2) :: m) m) (sl.map (·.1)++[(d.name,d.frm,s1.2,r1,r2)]):=by rw [s]; show cond (!(r3 == 0)) _ _=_; rw [c3]; rfl
   refine CA BS NA [⟨w.heap.size,0,[By a,.slice (some ⟨gd,fd,none⟩) ds.length dc],27,true⟩,⟨ws.heap.size,0,(CF (some ⟨gd,fd,none⟩) ds.length dc (some ⟨go,fo,none⟩) (Ag a ds day).1.length oc (some b1) (some b2) (some b3)),72,true⟩,⟨w6.heap.size,0,Be d A1 d0 A2 c2,59,true⟩,(Cu w7.heap.size false none (some nb) (some b3) pA pa.length pc j0 a0 s1.2.length v),⟨i0.heap.size,0,BP (r1,r2),41,true⟩,⟨k0.heap.size,0,Ch ((d.name,d.frm,s1.2,r1,r2),a0,v),44,true⟩] q0 [(2,1),(2,6),(3,6),(4,0)] fun k2 e0=>?_
   refine Cg e0.H (e0.ix 6) (e0.at 6 rfl) ((d.name,d.frm,s1.2,r1,r2),a0,v) (Ch ((d.name,d.frm,s1.2,r1,r2),a0,v)) rfl (k0.heap.size) (e0.ent 5 (by kernel_rfl)) (Br NA) (by kernel_rfl) (.tmp 117) (.tmp 126) 29 (by kernel_rfl) (by kernel_rfl) (by kernel_rfl) (by decide) (by kernel_rfl) (by kernel_rfl) rfl rfl (by omega) fun m0 l0 i2 Hn a4=>?_
   have e4:=e0.put 6 (by simp) a4 Hn
   have h1:=e4.take 7 9 Gf sl (sl++[((d.name,d.frm,s1.2,r1,r2),a0,v)]) ((d.name,d.frm,s1.2,r1,r2),a0,v) rfl rfl (by decide) (by intro z; rw [List.mem_append,List.mem_singleton]; exact Or.comm)
   replace h1:Wk w i2 [⟨w.heap.size,0,[By a,.slice (some ⟨gd,fd,none⟩) ds.length dc],27,true⟩,⟨ws.heap.size,0,(CF (some ⟨gd,fd,none⟩) ds.length dc (some ⟨go,fo,none⟩) (Ag a ds day).1.length oc (some b1) (some b2) (some b3)),72,true⟩,⟨w6.heap.size,0,Be d A1 d0 A2 c2,59,true⟩,(Cu w7.heap.size false none (some nb) (some b3) pA pa.length pc j0 a0 s1.2.length v),⟨i0.heap.size,0,BP (r1,r2),41,true⟩,⟨k0.heap.size,0,Ch ((d.name,d.frm,s1.2,r1,r2),a0,v),44,true⟩] ([BN (some ⟨go,fo,none⟩) oc (Ag a ds day).1,F2.th b1 ps.1,FB.th b2 ps.2.1,EM.th b3 (sx.map fun q=>(q.1,Ei q.2)),D0.th fb fnd,Eb.th nb m,FT m0 l0 (sl++[((d.name,d.frm,s1.2,r1,r2),a0,v)]),Th.all ((sl++[((d.name,d.frm,s1.2,r1,r2),a0,v)]).map Gf)]++[CP.thO j0 s1.1]) []:=h1
   refine Ae Ce QS h1 [(2,1)] fun h2 w0=>?_
   refine C4 (Dp Eb (o:=Br QS) (b:=nb) (m:=m) (x:=.tmp 129) (y:=.tmp 131) (by kernel_rfl) rfl (by kernel_rfl) d.name (by kernel_rfl) d1 (w0.H.all (w0.ix 5) _ (w0.at 5 rfl))) ?_
   refine Af QR [⟨w.heap.size,0,[By a,.slice (some ⟨gd,fd,none⟩) ds.length dc],27,true⟩,⟨ws.heap.size,0,(CF (some ⟨gd,fd,none⟩) ds.length dc (some ⟨go,fo,none⟩) (Ag a ds day).1.length oc (some b1) (some b2) (some b3)),72,true⟩,⟨w6.heap.size,0,Be d A1 d0 A2 c2,59,true⟩,(Cu w7.heap.size false none (some nb) (some b3) pA pa.length pc j0 a0 s1.2.length v),⟨i0.heap.size,0,BP (r1,r2),41,true⟩,⟨k0.heap.size,0,Ch ((d.name,d.frm,s1.2,r1,r2),a0,v),44,true⟩,⟨h2.heap.size,0,BP ((AO m d.name).getD Eb.z),41,true⟩] w0 [(6,0)] fun p4 g2=>?_
   have z2:(sl++[((d.name,d.frm,s1.2,r1,r2),a0,v)]).map (·.1)=sl.map (·.1)++[(d.name,d.frm,s1.2,r1,r2)]:=by rw [List.map_append]; rfl
   rw [← z2] at s
   refine AG (!(AO m d.name).isSome) (fun c4=>?_) (fun c4=>?_) <;> rw [c4] at s
   ·replace s:(Bm a ds day f ins pa nm)=Dz ds ps.2.2 pa f fnd ((Ag a ds day).1.drop (k + 1)) ((d.name,r1,r2) :: m) ((sl++[((d.name,d.frm,s1.2,r1,r2),a0,v)]).map (·.1)):=s
    refine Ae EN XL g2 [(2,1),(4,0)] fun k4 v0=>?_
    refine Fj Eb v0.H (v0.ix 5) (v0.at 5 rfl) d.name (r1,r2) d1 trivial (Br XL) (by kernel_rfl) (t:=79) (x:=.tmp 137) (y:=.tmp 139) (z:=.tmp 140) (by kernel_rfl) rfl (by kernel_rfl) (by kernel_rfl) (by kernel_rfl) (by omega) fun g4 Hn z3=>?_
    have b4:=v0.put 5 (by simp) z3 Hn
    refine AB (AY LF) b4 [] fun wa Ka=>?_
    refine AU [(3,.slice pA pa.length pc),(5,BY (w.heap.size)),(12,BY (ws.heap.size)),(16,.map (some fb)),(17,.map (some nb)),(22,.slice m0 (sl++[((d.name,d.frm,s1.2,r1,r2),a0,v)]).length l0),(89,.slice (some ⟨go,fo,none⟩) (Ag a ds day).1.length oc),(90,AI ((Ag a ds day).1.length:Int)),(91,AI (IntKind.i64.wrap ((k:Int) + 1)))] fun Ea=>?_
    rw [Bc k (by omega)]
    refine b0 _ _ ⟨k + 1,((d.name,r1,r2) :: m),(sl++[((d.name,d.frm,s1.2,r1,r2),a0,v)]),m0,l0,Ea,c0,rfl,s,by rw [List.length_cons]; omega,by rw [List.length_append,List.length_singleton]; omega,Ka.pk [0,1] [0,1,2,3,4,5,6,7]⟩ ?_
    show (Ag a ds day).1.length - AK (AI ((k + 1:Nat):Int)) < (Ag a ds day).1.length - AK (AI (k:Int))
    simp only [AK]
    omega
   ·replace s:(Bm a ds day f ins pa nm)=Dz ds ps.2.2 pa f fnd ((Ag a ds day).1.drop (k + 1)) m ((sl++[((d.name,d.frm,s1.2,r1,r2),a0,v)]).map (·.1)):=s
    refine AB (AY LF) g2 [] fun wa Ka=>?_
    refine AU [(3,.slice pA pa.length pc),(5,BY (w.heap.size)),(12,BY (ws.heap.size)),(16,.map (some fb)),(17,.map (some nb)),(22,.slice m0 (sl++[((d.name,d.frm,s1.2,r1,r2),a0,v)]).length l0),(89,.slice (some ⟨go,fo,none⟩) (Ag a ds day).1.length oc),(90,AI ((Ag a ds day).1.length:Int)),(91,AI (IntKind.i64.wrap ((k:Int) + 1)))] fun Ea=>?_
    rw [Bc k (by omega)]
    refine b0 _ _ ⟨k + 1,m,(sl++[((d.name,d.frm,s1.2,r1,r2),a0,v)]),m0,l0,Ea,c0,rfl,s,by omega,by rw [List.length_append,List.length_singleton]; omega,Ka.pk [0,1] [0,1,2,3,4,5,6,7]⟩ ?_
    show (Ag a ds day).1.length - AK (AI ((k + 1:Nat):Int)) < (Ag a ds day).1.length - AK (AI (k:Int))
    simp only [AK]
    omega
  ·have i3:k=(Ag a ds day).1.length:=by have:=of_decide_eq_false c1; omega
   rw [i3,List.drop_length,Dz] at s
   refine AB tF K2 [] fun w3 K3=>?_
   refine AJ K3 (0,0) (.tuple #[.slice sA sl.length sc,AI 0]) ⟨sA,sc,sl,by rw [s],by rw [s],K3.B,?_⟩
   exact K3.own0 (L':=[FT sA sc sl,Th.all (sl.map Gf)]) [6,7] rfl (by decide)
end
end Go.Proofs.YtkjbdagicjbjjaaGreat

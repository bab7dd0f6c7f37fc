/- Contracts of functions, part 35. -/
import Derived.Test.YtkjbdagicjbjjaaGreatTs34
set_option linter.all false
namespace Go.Proofs.YtkjbdagicjbjjaaGreat
noncomputable section
open Go.RowKit
set_option maxRecDepth 100000
set_option maxHeartbeats 1000000
abbrev C4:=List UInt8×Int×List DP×Int×Int
abbrev LU:=C4×Option Addr×Nat
abbrev Dp (x:LU):List Value:=[η (x.1.1),δ x.1.2.1,τ x.2.1 x.1.2.2.1.length x.2.2,δ x.1.2.2.2.1,δ x.1.2.2.2.2]
abbrev rowsUse:=Cl 7 Ch
def rowsSt (w:World) (A:Option Addr) (l:List C4):Prop:=∃ rs,ET (fun e r=>∃ A c,r=Dp (e,A,c)∧rowsUse w A e.2.2.1) l rs∧DH CN w 5 A rs
abbrev FZ (A:Option Addr) (c:Nat) (l:List LU):Th:=Th.row 44 5 (fun e r=>r=Dp e) A c l
def Ge (x:LU):Th:=CH x.2.1 x.2.2 x.1.2.2.1
theorem rowsSt.below {w w':World} {A:Option Addr} {l:List C4} (h:rowsSt w A l) (B:Below (ε w) w w'):rowsSt w' A l:=by
 obtain ⟨rs,a,h2⟩:=h
 exact ⟨rs,NW (fun e r _ ⟨A,c,hr,he⟩=>⟨A,c,hr,Cl.below he B⟩) a,DH.below h2 B⟩
theorem rowsSt.all {w:World} {A:Option Addr} {l:List C4} (h:rowsSt w A l) (a:0 < l.length):∃ g off,A=some ⟨g,off,none⟩∧g < (ε w)∧∀ (i:Nat) e,l[i]?=some e→∃ b c,w.rangeAt g (off + i * 5) (Dp (e,b,c))∧rowsUse w b e.2.2.1:=by
 obtain ⟨rs,d,h2⟩:=h
 rcases h2 with h2 | ⟨g,off,rfl,_,hg,hc⟩
 ·rw [← Hf d,h2] at a
  exact absurd a (Nat.lt_irrefl _)
 refine ⟨g,off,rfl,hg,fun i e hi=>?_⟩
 obtain ⟨r,hr,b,c,rfl,hx⟩:=PP d hi
 exact ⟨b,c,fun j u hu=>hc i _ hr j u hu,hx⟩
theorem Sf (e:DP):(Ch e).length=7:=rfl
theorem Aj.rowsUse {b:Nat} {w:World} {L:List Th} {A:Option Addr} {c:Nat} {l:List DP} (h:Aj b w L) (i:Nat) (hi:L[i]?=some (CH A c l)):rowsUse w A l:=h.rowsF Sf i hi
theorem Th.rowsUse {w:World} {A:Option Addr} {c:Nat} {l:List DP} (h:(CH A c l).P w):rowsUse w A l:=by
 obtain ⟨rs,hr,ho⟩:=h
 have:=Su (Hf hr) (LK (fun e r he=>by rw [he]; exact Sf e) hr) ho
 rw [IU hr] at this
 exact this
theorem Aj.rowsSt {b:Nat} {w:World} {L:List Th} {A:Option Addr} {c:Nat} {a:List LU} (h:Aj b w L) (i j:Nat) (hi:L[i]?=some (FZ A c a)) (d:L[j]?=some (Th.all (a.map Ge))):rowsSt w A (a.map (·.1)):=by
 have e:=h.rowsF (f:=Dp) (fun _=>rfl) i hi
 have h2:∀ x∈a,Go.Proofs.YtkjbdagicjbjjaaGreat.rowsUse w x.2.1 x.1.2.2.1:=fun x hx=>Th.rowsUse ((h.all j _ d) (Ge x) (List.mem_map_of_mem hx))
 refine ⟨a.map Dp,?_,e⟩
 clear e hi d
 induction a with
 | nil=>trivial
 | cons x a ih=>exact ⟨⟨x.2.1,x.2.2,rfl,h2 x (by simp)⟩,ih fun y g=>h2 y (by simp [g])⟩
def AGJ (kn kd:Int):Option (List Gd)→Int×Int×Int
 | none=>(0,0,16)
 | some v=>Dc v kn kd
def Bm (cl:Bool) (cm:List (Ao×Int×Int)) (nm:List (List UInt8×Int×Int)) (sc:List (List UInt8×List Gd)) (pa:List Dk) (p:Ao):Int×Int×Int:=
 cond cl (pt (AH cm p)) (cond (p.1 == 3) (fz (AH nm p.2.1)) (cond (p.1 == 4) (AGJ p.2.2.2.1 p.2.2.2.2 (AH sc p.2.1)) (cond (p.1 == 20) (Hq pa p.2.1 p.2.2.1) (LN pa p.2.1 p.2.2.1))))
theorem SB (c:Bool) (b:List (Ao×Int×Int)) (nm:List (List UInt8×Int×Int)) (a:List (List UInt8×Gy)) (pa:List Dk):Bi c b nm a pa=Bm c b nm (a.map fun q=>(q.1,q.2.1)) pa:=by
 funext p
 unfold Bi Bm
 rw [FA]
 cases AH a p.2.1 <;> rfl
def Hi (ins:List (List UInt8×Bool)):List Dl→List (List UInt8×Int×Int)→List (List UInt8×Int×Int)
 | [],m=>m
 | e :: r,m=>cond (cond (!(AH m e.1).isSome) ((AH ins e.1).getD false) false) (Hi ins r ((e.1,e.2.1,e.2.2) :: m)) (Hi ins r m)
def Dv (ds:List Df) (sc:List (List UInt8×List Gd)) (pa:List Dk) (h:Nat) (fnd:List (Nat×Bool)):List Nat→List (List UInt8×Int×Int)→List C4→List C4×Int
 | [],_,a=>(a,0)
 | i :: r,nm,a=>cond (!((AH fnd i).getD false)) (Dv ds sc pa h fnd r nm a)
   (cond (!((BJ (Bm false [] nm sc pa) h (ds.getD i default) ([],[])).1.2.2 == 0)) ([],(BJ (Bm false [] nm sc pa) h (ds.getD i default) ([],[])).1.2.2)
    (Dv ds sc pa h fnd r (cond (!(AH nm (ds.getD i default).name).isSome) (((ds.getD i default).name,(BJ (Bm false [] nm sc pa) h (ds.getD i default) ([],[])).1.1,(BJ (Bm false [] nm sc pa) h (ds.getD i default) ([],[])).1.2.1) :: nm) nm)
     (a++[((ds.getD i default).name,(ds.getD i default).frm,(BJ (Bm false [] nm sc pa) h (ds.getD i default) ([],[])).2.2,(BJ (Bm false [] nm sc pa) h (ds.getD i default) ([],[])).1.1,(BJ (Bm false [] nm sc pa) h (ds.getD i default) ([],[])).1.2.1)])))
def CX (n:List UInt8) (ds:List Df) (day:Int) (h:Nat) (ins:List Dl) (pa:List Dk) (nm:List UInt8):List C4×Int:=
 cond (!(CJ n ds day == 0)) ([],CJ n ds day) (match AH (Ap n ds day).2.1 nm with
  | none=>([],7)
  | some r=>cond (!((Dn n ds day r.toNat).2 == 0)) ([],(Dn n ds day r.toNat).2) (Dv ds (Ap n ds day).2.2 pa h (Dn n ds day r.toNat).1 (Ad n ds day).1 (Hi (Ap n ds day).1 ins []) []))
def iC (n:List UInt8) (ds:List Df) (day:Int) (q:List UInt8×Int):Prop:=∃ x,x∈Ct n ds day∧q=((ds.getD x default).name,(x:Int))∧Ac (ds.getD x default)=true
theorem W4 {n:List UInt8} {ds:List Df} {day:Int}:∀ (act:List Nat) (s:GK),(∀ x∈act,x∈Ct n ds day)→(∀ q∈s.2.1,iC n ds day q)→∀ q∈(Dr ds act s).2.1,iC n ds day q
 | [],_,_,h=>h
 | x :: act,s,ha,h=>by
  rw [Dr]
  refine W4 act _ (fun y b=>ha y (by simp [b])) ?_
  have c:Ac (κ ds x)=((κ ds x).kind == 3 || (κ ds x).kind == 4):=by
   unfold Ac
   cases (κ ds x).kind == 3 <;> rfl
  unfold IG
  cases (κ ds x).kind == 1
  ·simp only [cond_false]
   cases (κ ds x).kind == 2
   ·simp only [cond_false]
    cases hc:((κ ds x).kind == 3 || (κ ds x).kind == 4)
    ·exact h
    simp only [cond_true]
    cases !(AH s.2.1 (κ ds x).name).isSome
    ·exact h
    intro q a
    rcases List.mem_cons.1 a with rfl | a
    ·exact ⟨x,ha x (by simp),rfl,c.trans hc⟩
    exact h q a
   simp only [cond_true]
   cases !(AH s.2.2 (κ ds x).name).isSome
   ·exact h
   exact h
  exact h
theorem KW {n:List UInt8} {ds:List Df} {day:Int}:∀ q∈(Ap n ds day).2.1,iC n ds day q:=W4 _ _ (fun _ hx=>hx) (fun q a=>by cases a)
theorem H6 {ds:List Df} {p1:Int}:∀ (es:List Nat) (a0:Int) (a:List Nat) (b:List (Nat×List Nat)),(∀ i∈a,Ac (κ ds i)=true)→∀ i∈(BI ds p1 es a0 a b).1,Ac (κ ds i)=true
 | [],a0,a,b,h=>by rw [BI]; exact h
 | e :: es,a0,a,b,h=>by
  rw [BI]
  cases hc:!(Ac (κ ds e))
  ·simp only [cond_false]
   cases !((CI ds (Aa ds p1) e).2 == 0)
   ·exact H6 es a0 (a++[e]) _ fun i hi=>by
     rcases List.mem_append.1 hi with hi | hi
     ·exact h i hi
     rw [List.mem_singleton.1 hi]; simpa using hc
   exact fun j c=>(by cases c)
  exact H6 es a0 a b h
theorem HJ {n:List UInt8} {ds:List Df} {p1:Int}:∀ i∈(Ad n ds p1).1,Ac (κ ds i)=true:=by
 unfold Ad
 cases !((A4 n ds p1).2.2 == 0)
 ·have h2:=JZ (nodes:=(A4 n ds p1).1) (ns:=(A4 n ds p1).2.1) ((A4 n ds p1).1.length + 1) [] [] (fun j a=>(by cases a)) (Nat.zero_le _)
  have b:∀ i∈(A4 n ds p1).1,Ac (κ ds i)=true:=by
   unfold A4
   cases !(C7 n ds p1 == 0)
   ·exact H6 _ _ _ _ (fun j a=>(by cases a))
   exact fun j a=>(by cases a)
  exact fun i hi=>b i (h2.1 i hi)
 exact fun j a=>(by cases a)
def RL:Op→Bool
 | .build _ _=>true
 | _=>false
attribute [local irreducible] BD BP AC AD AF Ar AZ AM Aw Bk C6 BV EE C5 BO At Fr
noncomputable def Xo:Code:=Tryz.f7.body.getD .skip
def iX:=ν [.code Xo]
def NP:=Ω iX
def xH:=Ξ NP
def Ub:=AA (An (Cv) 90 (AF NP)) (AF NP)
def P9:=Ω Ub
def xG:=Ξ P9
def iW:=Ψ P9
def P8:=Ω iW
def xF:=Ξ P8
def Ua:=AA (An (ES) 90 (AF P8)) (AF P8)
def OG:=Ω Ua
def OE:=ν (Ar OG)
def Rw:=AA (An (Ae) 90 (AD OE)) (AD OE)
def Rv:=AA (An (Cv) 90 (AC (AC Rw))) (AC (AC Rw))
def Yz:=Al 15 (AC Rv)
def Ru:=AI Yz
def Yy:=AA (An (Eh) 90 (AD Ru)) (AD Ru)
def Lt:=Ψ OE
def OD:=ν (Ar Lt)
def Rt:=AA (An (Ae) 90 (AD OD)) (AD OD)
def Rs:=AA (An (Cv) 90 (AC (AC Rt))) (AC (AC Rt))
def Rr:=Ω Rs
def Rq:=AA (An (Ae) 90 (AF Rr)) (AF Rr)
def Rp:=AA (An (RL) 90 (AC (AC Rq))) (AC (AC Rq))
def Yx:=AA (An (GP 59) 90 (Rp)) (Rp)
def Yw:=Ω Yx
def OC:=Ω Yw
def vw:=Ξ OC
def OB:=AA (An (Bp) 90 (AF OC)) (AF OC)
def Ro:=AA (An (Cv) 90 (AC OB)) (AC OB)
def Rn:=Ω Ro
def Yv:=AA (An (Eh) 90 (AD Rn)) (AD Rn)
def vu:=Ψ OD
theorem Lk (a:List UInt8) (dA:Option Addr) (ds:List Df) (dc:Nat) (day:Int) (f:Nat) (iA:Option Addr) (ins:List Dl) (ic:Nat) (pA:Option Addr) (pa:List Dk) (pc:Nat) (nm:List UInt8) (w:World) (q0:rowsDf w dA ds) (p0:ds.length≤1000000000) (d2:ds.length≤dc) (hs:a.length≤4294967296) (ht:∀ d∈ds,Fc d) (a1:∀ d∈ds,Dm d.body) (hn:∀ d∈ds,nE d.body≤1000000) (v3:∀ d∈ds,Ac d=true→Fy f d.body)
  (l3:wF w iA ins) (t0:ins.length≤1000000000) (m3:∀ e∈ins,e.1.length≤4294967296) (q2:EW w pA pa) (i3:pa.length≤4294967296) (e3:∀ e∈pa,e.2.length≤4294967296) (v2:nm.length≤4294967296) :
  Calls Tryz.prog 7 ([ψ [η a,τ dA ds.length dc],δ day,τ iA ins.length ic,τ pA pa.length pc,η nm]:List Value).toArray w fun e w'=>∃ rA rc,∃ (sl:List LU),e=.returned (.tuple #[τ rA sl.length rc,δ (CX a ds day f ins pa nm).2])∧sl.map (·.1)=(CX a ds day f ins pa nm).1∧Below w.heap.size w w'∧Aj w.heap.size w' [FZ rA rc sl,Th.all (sl.map Ge)]:=by
 refine AS (fn:=Tryz.f7) (c:=Xo) (n:=143) ?_
 have K0:=Wk.start w
 have s:(CX a ds day f ins pa nm)=cond (!(CJ a ds day == 0)) ([],CJ a ds day) (match AH (Ap a ds day).2.1 nm with
  | none=>([],7)
  | some r=>cond (!((Dn a ds day r.toNat).2 == 0)) ([],(Dn a ds day r.toNat).2) (Dv ds (Ap a ds day).2.2 pa f (Dn a ds day r.toNat).1 (Ad a ds day).1 (Hi (Ap a ds day).1 ins []) [])):=rfl
 refine Ah iX [ι w.heap.size [η a,τ dA ds.length dc] 27] K0 [(0,0)] fun w1 K1=>?_
 refine BA (Ou a dA ds dc day w w1 q0 K1.B p0 d2 hs ht a1 hn) fun en w2 hh=>?_
 rcases hh with ⟨rfl,x2,b2⟩ | ⟨oA,oc,b1,b2,b3,sx,s2,rfl,l1,m1,bw,Hn⟩
 ·refine ⟨_,rfl,?_⟩
  have K2:=K1.below b2
  have hc:(!(CJ a ds day == 0))=true:=by simpa using x2
  rw [hc] at s
  replace s:(CX a ds day f ins pa nm)=([],CJ a ds day):=s
  refine Ah NP [ι w.heap.size [η a,τ dA ds.length dc] 27,ι w2.heap.size ((CU none 0 0 none 0 0 none none none)) 72] K2 [(1,0)] fun w3 K3=>?_
  refine AG (!(CJ a ds day == 0)) (fun _=>?_) (fun h0=>by rw [hc] at h0; cases h0)
  refine AB xH K3 [] fun w4 K4=>?_
  refine AK K4 (0,0) (.tuple #[τ none 0 0,δ (CJ a ds day)]) ⟨none,0,[],by rw [s]; rfl,by rw [s]; rfl,K4.B,?_⟩
  exact ((K4.own0 (L':=[]) [] rfl (by decide)).addNil 44 5 (fun e r=>r=Dp e)).addFam Ge
 refine ⟨_,rfl,?_⟩
 have K2:=K1.join bw Hn
 have e2:(!(CJ a ds day == 0))=false:=by rw [s2]; rfl
 rw [e2] at s
 clear Hn e2
 have n1:=KW (n:=a) (ds:=ds) (day:=day)
 have t2:=(TF (n:=a) (p1:=day) hn)
 have u2:=HJ (n:=a) (ds:=ds) (p1:=day)
 generalize hws:w2=ws at K2 ⊢
 replace s:(CX a ds day f ins pa nm)=(match AH (Ap a ds day).2.1 nm with
  | none=>([],7)
  | some r=>cond (!((Dn a ds day r.toNat).2 == 0)) ([],(Dn a ds day r.toNat).2) (Dv ds (Ap a ds day).2.2 pa f (Dn a ds day r.toNat).1 (Ad a ds day).1 (Hi (Ap a ds day).1 ins []) [])):=s
 generalize (Ap a ds day)=ps at s l1 n1 K2 ⊢
 refine Ah NP [ι w.heap.size [η a,τ dA ds.length dc] 27,ι ws.heap.size ((CU dA ds.length dc oA (Ad a ds day).1.length oc (some b1) (some b2) (some b3))) 72] K2 [(1,0)] fun w3 K3=>?_
 refine AG false (fun h0=>by cases h0) (fun _=>?_)
 refine Ak Cv Ub K3 [(1,3)] fun w4 K4=>?_
 refine DN (D6 FX (o:=CL Ub) (b:=b2) (m:=ps.2.1) (x:=.tmp 42) (y:=.tmp 43) (by kernel_rfl) rfl (by kernel_rfl) nm (by kernel_rfl) v2 (K4.H.all (K4.ix 2) _ (K4.at 2 rfl))) ?_
 cases hlk:AH ps.2.1 nm with
 | none=>
  rw [hlk] at s
  refine AB P9 K4 [] fun w5 K5=>?_
  refine AG true (fun _=>?_) (fun h0=>by cases h0)
  refine AB xG K5 [] fun w6 K6=>?_
  refine AK K6 (0,0) (.tuple #[τ none 0 0,δ 7]) ⟨none,0,[],by rw [s]; rfl,by rw [s]; rfl,K6.B,?_⟩
  exact ((K6.own0 (L':=[]) [] rfl (by decide)).addNil 44 5 (fun e r=>r=Dp e)).addFam Ge
 | some r=>
 rw [hlk] at s
 obtain ⟨x,n2,p2,q4⟩:=n1 _ (EM hlk)
 obtain rfl:r=(x:Int):=(Prod.mk.inj p2).2
 have m2:x < ds.length:=Ew _ n2
 replace s:(CX a ds day f ins pa nm)=cond (!((Dn a ds day x).2 == 0)) ([],(Dn a ds day x).2) (Dv ds ps.2.2 pa f (Dn a ds day x).1 (Ad a ds day).1 (Hi ps.1 ins []) []):=s
 refine AB P9 K4 [] fun w5 K5=>?_
 refine AG false (fun h0=>by cases h0) (fun _=>?_)
 refine AB iW K5 [(0,0)] fun w6 K6=>?_
 refine BA (Yl a dA ds dc day x w6 (q0.below K6.B) p0 m2 hs ht a1 hn) fun en w7 hh=>?_
 obtain ⟨rb,rfl,b7,o1,Hn⟩:=hh
 refine ⟨_,rfl,?_⟩
 have K7:=K6.join b7 Hn
 refine AB P8 K7 [] fun w8 K8=>?_
 refine AG (!((Dn a ds day x).2 == 0)) (fun c1=>?_) (fun c1=>?_) <;> rw [c1] at s
 ·replace s:(CX a ds day f ins pa nm)=([],(Dn a ds day x).2):=s
  refine AB xF K8 [] fun w9 K9=>?_
  refine AK K9 (0,0) (.tuple #[τ none 0 0,δ (Dn a ds day x).2]) ⟨none,0,[],by rw [s]; rfl,by rw [s]; rfl,K9.B,?_⟩
  exact ((K9.own0 (L':=[]) [] rfl (by decide)).addNil 44 5 (fun e r=>r=Dp e)).addFam Ge
 obtain ⟨fb,rfl⟩:=o1 (by simpa using c1)
 replace s:(CX a ds day f ins pa nm)=Dv ds ps.2.2 pa f (Dn a ds day x).1 (Ad a ds day).1 (Hi ps.1 ins []) []:=s
 generalize (Dn a ds day x).1=fnd at s K8
 replace K8:Wk w w8 [ι w.heap.size [η a,τ dA ds.length dc] 27,ι ws.heap.size ((CU dA ds.length dc oA (Ad a ds day).1.length oc (some b1) (some b2) (some b3))) 72] [BS oA oc (Ad a ds day).1,GU.th b1 ps.1,FX.th b2 ps.2.1,Eg.th b3 (sx.map fun q=>(q.1,FI q.2)),EJ.th fb fnd] []:=K8
 refine Ak ES Ua K8 [] fun w9 K9=>?_
 refine FV Ez K9.H (CL Ua) (by kernel_rfl) (t:=79) (by kernel_rfl) fun g0 _ Hn h1=>?_
 have e0:=K9.add h1 Hn
 generalize w9.heap.size=nb at e0 ⊢
 refine AB OG e0 [] fun k0 r0=>?_
 refine AU [(3,τ pA pa.length pc),(5,ζ (w.heap.size)),(12,ζ (ws.heap.size)),(16,.map (some fb)),(17,.map (some nb)),(60,τ iA ins.length ic),(61,δ (ins.length:Int)),(62,δ ((0:Nat):Int))] fun g4=>?_
 refine Bo (by kernel_rfl) (fun E wx=>∃ (j:Nat) (m:List (List UInt8×Int×Int)) (E0:Nat→Value),j≤ins.length∧E=BE E0 [(3,τ pA pa.length pc),(5,ζ (w.heap.size)),(12,ζ (ws.heap.size)),(16,.map (some fb)),(17,.map (some nb)),(60,τ iA ins.length ic),(61,δ (ins.length:Int)),(62,δ (j:Int))]∧(CX a ds day f ins pa nm)=Dv ds ps.2.2 pa f fnd (Ad a ds day).1 (Hi ps.1 (ins.drop j) m) []∧m.length≤j∧Wk w wx [ι w.heap.size [η a,τ dA ds.length dc] 27,ι ws.heap.size ((CU dA ds.length dc oA (Ad a ds day).1.length oc (some b1) (some b2) (some b3))) 72] [BS oA oc (Ad a ds day).1,GU.th b1 ps.1,FX.th b2 ps.2.1,Eg.th b3 (sx.map fun q=>(q.1,FI q.2)),EJ.th fb fnd,Ez.th nb m] []) (fun E _=>ins.length - AL (E 62)) ⟨0,[],g4,Nat.zero_le _,rfl,s,Nat.le_refl _,r0⟩ ?_
 clear r0 e0 K9 K8 K7 K6 K5 K4 K3 K2 K1 s Hn c1 o1
 rintro E wx ⟨j,m,E0,hj,rfl,s,q1,K1⟩ b0
 refine AB OE K1 [] fun w2 K2=>?_
 refine AG (decide ((j:Int) < (ins.length:Int))) (fun c1=>?_) (fun c1=>?_)
 ·have c0:j < ins.length:=by have:=of_decide_eq_true c1; omega
  obtain ⟨e,he⟩:∃ e,ins[j]?=some e:=⟨_,List.getElem?_eq_getElem c0⟩
  have g1:ins.drop j=e :: ins.drop (j + 1):=by
   have he:ins[j]=e:=(List.getElem?_eq_some_iff.1 he).2
   rw [← List.getElem_cons_drop c0,he]
  rw [g1,Hi] at s
  have f1:=m3 e (List.mem_of_getElem? he)
  obtain ⟨gi,fi,rfl,p3,o3⟩:=l3.all (by omega)
  have s0:=o3 j _ he
  refine Ak Ae Rw K2 [] fun w3 K3=>?_
  refine Ay (g:=gi) (off:=fi) (cap:=ic) (sz:=3) (k:=j) (len:=ins.length) (some 64) c0 Tryz.underlying33 ?_
  refine BN 81 gi (fi + j * 3) (GW e) (some 65) (Ag s0 p3 K3.B) ?_
  refine CY Cv Rv [ι w.heap.size [η a,τ dA ds.length dc] 27,ι ws.heap.size ((CU dA ds.length dc oA (Ad a ds day).1.length oc (some b1) (some b2) (some b3))) 72,ι w3.heap.size (GW e) 81] K3 [(2,0),(2,0)] fun w4 K4=>?_
  refine DN (D6 Ez (o:=CL Rv) (b:=nb) (m:=m) (x:=.tmp 67) (y:=.tmp 69) (by kernel_rfl) rfl (by kernel_rfl) e.1 (by kernel_rfl) f1 (K4.H.all (K4.ix 5) _ (K4.at 5 rfl))) ?_
  refine CC 15 Yz [ι w.heap.size [η a,τ dA ds.length dc] 27,ι ws.heap.size ((CU dA ds.length dc oA (Ad a ds day).1.length oc (some b1) (some b2) (some b3))) 72,ι w3.heap.size (GW e) 81,ι w4.heap.size (BT ((AH m e.1).getD Ez.z)) 41] K4 [(3,0)] fun w5 K5=>?_
  refine Av K5 (mem:=[ι w.heap.size [η a,τ dA ds.length dc] 27,ι ws.heap.size ((CU dA ds.length dc oA (Ad a ds day).1.length oc (some b1) (some b2) (some b3))) 72,ι w3.heap.size (GW e) 81]) [(4,1,2),(6,2,0)] [⟨7,[(77,.map (some b1)),(79,η (e.1))],ξ ((AH ps.1 e.1).getD false),(!(AH m e.1).isSome) && true⟩] (fun e' v1=>K5.G e' (by simp only [List.mem_cons,List.not_mem_nil,or_false] at v1 ⊢; rcases v1 with rfl | rfl | rfl <;> simp)) (fun sp o2=>?_) fun w6 E6 K6=>?_
  ·rw [List.mem_singleton.1 o2]
   exact BQ fun _ E u hu=>F7 GU (x:=.tmp 77) (y:=.tmp 79) (by kernel_rfl) rfl (by kernel_rfl) e.1 (by kernel_rfl) f1 (Bc.below (S:=GU) (K5.H.all (K5.ix 1) _ (K5.at 1 rfl)) hu)
  refine AB Ru K6 [] fun w7 K7=>?_
  refine AG (cond (!(AH m e.1).isSome) ((AH ps.1 e.1).getD false) false) (fun c2=>?_) (fun c2=>?_) <;> rw [c2] at s
  ·replace s:(CX a ds day f ins pa nm)=Dv ds ps.2.2 pa f fnd (Ad a ds day).1 (Hi ps.1 (ins.drop (j + 1)) ((e.1,e.2.1,e.2.2) :: m)) []:=s
   refine Ak Eh Yy K7 [(2,0),(2,1)] fun w8 K8=>?_
   refine GC Ez K8.H (K8.ix 5) (K8.at 5 rfl) e.1 (e.2.1,e.2.2) f1 trivial (CL Yy) (by kernel_rfl) (t:=79) (x:=.tmp 82) (y:=.tmp 84) (z:=.tmp 86) (by kernel_rfl) rfl (by kernel_rfl) (by kernel_rfl) (by kernel_rfl) (by omega) fun w9 Hn b9=>?_
   have K9:=K8.put 5 (by simp) b9 Hn
   refine AB (AZ OG) K9 [] fun g0 e0=>?_
   refine AU [(3,τ pA pa.length pc),(5,ζ (w.heap.size)),(12,ζ (ws.heap.size)),(16,.map (some fb)),(17,.map (some nb)),(60,τ (some ⟨gi,fi,none⟩) ins.length ic),(61,δ (ins.length:Int)),(62,δ (IntKind.i64.wrap ((j:Int) + 1)))] fun k1=>?_
   rw [Bl j (by omega)]
   refine b0 _ _ ⟨j + 1,(e.1,e.2.1,e.2.2) :: m,k1,c0,rfl,s,by rw [List.length_cons]; omega,e0.pk [0,1] [0,1,2,3,4,5]⟩ ?_
   show ins.length - AL (δ ((j + 1:Nat):Int)) < ins.length - AL (δ (j:Int))
   simp only [AL]
   omega
  replace s:(CX a ds day f ins pa nm)=Dv ds ps.2.2 pa f fnd (Ad a ds day).1 (Hi ps.1 (ins.drop (j + 1)) m) []:=s
  refine AB (AZ OG) K7 [] fun g0 e0=>?_
  refine AU [(3,τ pA pa.length pc),(5,ζ (w.heap.size)),(12,ζ (ws.heap.size)),(16,.map (some fb)),(17,.map (some nb)),(60,τ (some ⟨gi,fi,none⟩) ins.length ic),(61,δ (ins.length:Int)),(62,δ (IntKind.i64.wrap ((j:Int) + 1)))] fun k1=>?_
  rw [Bl j (by omega)]
  refine b0 _ _ ⟨j + 1,m,k1,c0,rfl,s,by omega,e0.pk [0,1] [0,1,2,3,4,5]⟩ ?_
  show ins.length - AL (δ ((j + 1:Nat):Int)) < ins.length - AL (δ (j:Int))
  simp only [AL]
  omega
 have t1:j=ins.length:=by have:=of_decide_eq_false c1; omega
 rw [t1,List.drop_length,Hi] at s
 have K3:=(K2.addNil 44 5 (fun (e:LU) r=>r=Dp e)).addFam Ge
 refine AB Lt K3 [(1,1)] fun w4 K4=>?_
 replace K4:Wk w w4 [ι w.heap.size [η a,τ dA ds.length dc] 27,ι ws.heap.size ((CU dA ds.length dc oA (Ad a ds day).1.length oc (some b1) (some b2) (some b3))) 72] [BS oA oc (Ad a ds day).1,GU.th b1 ps.1,FX.th b2 ps.2.1,Eg.th b3 (sx.map fun q=>(q.1,FI q.2)),EJ.th fb fnd,Ez.th nb m,FZ none 0 ([]:List LU),Th.all (([]:List LU).map Ge)] []:=K4
 refine AU [(3,τ pA pa.length pc),(5,ζ (w.heap.size)),(12,ζ (ws.heap.size)),(16,.map (some fb)),(17,.map (some nb)),(22,τ none ([]:List LU).length 0),(89,τ oA (Ad a ds day).1.length oc),(90,δ ((Ad a ds day).1.length:Int)),(91,δ ((0:Nat):Int))] fun E4=>?_
 refine Bo (by kernel_rfl) (fun E wx=>∃ (k:Nat) (m:List (List UInt8×Int×Int)) (sl:List LU) (sA:Option Addr) (sc:Nat) (E0:Nat→Value),k≤(Ad a ds day).1.length∧E=BE E0 [(3,τ pA pa.length pc),(5,ζ (w.heap.size)),(12,ζ (ws.heap.size)),(16,.map (some fb)),(17,.map (some nb)),(22,τ sA sl.length sc),(89,τ oA (Ad a ds day).1.length oc),(90,δ ((Ad a ds day).1.length:Int)),(91,δ (k:Int))]∧(CX a ds day f ins pa nm)=Dv ds ps.2.2 pa f fnd ((Ad a ds day).1.drop k) m (sl.map (·.1))∧m.length≤ins.length + k∧sl.length≤k∧Wk w wx [ι w.heap.size [η a,τ dA ds.length dc] 27,ι ws.heap.size ((CU dA ds.length dc oA (Ad a ds day).1.length oc (some b1) (some b2) (some b3))) 72] [BS oA oc (Ad a ds day).1,GU.th b1 ps.1,FX.th b2 ps.2.1,Eg.th b3 (sx.map fun q=>(q.1,FI q.2)),EJ.th fb fnd,Ez.th nb m,FZ sA sc sl,Th.all (sl.map Ge)] []) (fun E _=>(Ad a ds day).1.length - AL (E 91)) ⟨0,m,[],none,0,E4,Nat.zero_le _,rfl,s,by omega,Nat.le_refl _,K4⟩ ?_
 clear K4 K3 K2 K1 s q1 b0 c1 t1 hj
 rintro E wx ⟨k,m,sl,sA,sc,E0,hk,rfl,s,q1,t4,K1⟩ b0
 refine AB OD K1 [] fun w2 K2=>?_
 refine AG (decide ((k:Int) < ((Ad a ds day).1.length:Int))) (fun c1=>?_) (fun c1=>?_)
 ·have c0:k < (Ad a ds day).1.length:=by have:=of_decide_eq_true c1; omega
  obtain ⟨i,hi⟩:∃ e,(Ad a ds day).1[k]?=some e:=⟨_,List.getElem?_eq_getElem c0⟩
  have g1:(Ad a ds day).1.drop k=i :: (Ad a ds day).1.drop (k + 1):=by
   have he:(Ad a ds day).1[k]=i:=(List.getElem?_eq_some_iff.1 hi).2
   rw [← List.getElem_cons_drop c0,he]
  rw [g1,Dv] at s
  have u1:=List.mem_of_getElem? hi
  have t0:i < ds.length:=t2.1 i u1
  have n3:=u2 i u1
  obtain ⟨go,fo,rfl,x4,v4⟩:=(K2.H.rowsNat (K2.ix 0) (K2.at 0 rfl)).all (by omega)
  refine Ak Ae Rt K2 [] fun w3 K3=>?_
  obtain ⟨g3,f3,h3,z4,x3⟩:=(K3.H.rowsNat (K3.ix 0) (K3.at 0 rfl)).all (by omega)
  obtain ⟨rfl,rfl⟩:go=g3∧fo=f3:=by injection h3 with h3; injection h3 with h3 h4; exact ⟨h3,h4⟩
  refine Ay (g:=go) (off:=fo) (cap:=oc) (sz:=1) (k:=k) (len:=(Ad a ds day).1.length) (some 93) c0 Tryz.underlying22 ?_
  refine Dz 3 go (fo + k * 1) (δ (i:Int)) (some 94) (by simpa using x3 k _ hi 0 _ rfl) ?_
  refine Ak Cv Rs K3 [] fun w4 K4=>?_
  refine DN (F7 EJ (o:=CL Rs) (b:=fb) (m:=fnd) (x:=.tmp 95) (y:=.tmp 96) (by kernel_rfl) rfl (by kernel_rfl) i (by kernel_rfl) (by show i≤_; omega) (K4.H.all (K4.ix 4) _ (K4.at 4 rfl))) ?_
  refine AB Rr K4 [] fun w5 K5=>?_
  refine AG (!((AH fnd i).getD false)) (fun c2=>?_) (fun c2=>?_) <;> rw [c2] at s
  ·replace s:(CX a ds day f ins pa nm)=Dv ds ps.2.2 pa f fnd ((Ad a ds day).1.drop (k + 1)) m (sl.map (·.1)):=s
   refine AB (AZ Lt) K5 [] fun wa Ka=>?_
   refine AU [(3,τ pA pa.length pc),(5,ζ (w.heap.size)),(12,ζ (ws.heap.size)),(16,.map (some fb)),(17,.map (some nb)),(22,τ sA sl.length sc),(89,τ (some ⟨go,fo,none⟩) (Ad a ds day).1.length oc),(90,δ ((Ad a ds day).1.length:Int)),(91,δ (IntKind.i64.wrap ((k:Int) + 1)))] fun Ea=>?_
   rw [Bl k (by omega)]
   refine b0 _ _ ⟨k + 1,m,sl,sA,sc,Ea,c0,rfl,s,by omega,by omega,Ka.pk [0,1] [0,1,2,3,4,5,6,7]⟩ ?_
   show (Ad a ds day).1.length - AL (δ ((k + 1:Nat):Int)) < (Ad a ds day).1.length - AL (δ (k:Int))
   simp only [AL]
   omega
  replace s:(CX a ds day f ins pa nm)=cond (!((BJ (Bm false [] m ps.2.2 pa) f (ds.getD i default) ([],[])).1.2.2 == 0)) ([],(BJ (Bm false [] m ps.2.2 pa) f (ds.getD i default) ([],[])).1.2.2)
   (Dv ds ps.2.2 pa f fnd ((Ad a ds day).1.drop (k + 1)) (cond (!(AH m (ds.getD i default).name).isSome) (((ds.getD i default).name,(BJ (Bm false [] m ps.2.2 pa) f (ds.getD i default) ([],[])).1.1,(BJ (Bm false [] m ps.2.2 pa) f (ds.getD i default) ([],[])).1.2.1) :: m) m)
    (sl.map (·.1)++[((ds.getD i default).name,(ds.getD i default).frm,(BJ (Bm false [] m ps.2.2 pa) f (ds.getD i default) ([],[])).2.2,(BJ (Bm false [] m ps.2.2 pa) f (ds.getD i default) ([],[])).1.1,(BJ (Bm false [] m ps.2.2 pa) f (ds.getD i default) ([],[])).1.2.1)])):=s
  obtain ⟨gd,fd,rfl,q3,z1⟩:=q0.all (by omega)
  have a2:ds[i]?=some (ds.getD i default):=getD_some default t0
  have v0:=DR (l:=ds) t0
  obtain ⟨A1,j0,A2,c2,s0,z3,g2⟩:=z1 i _ a2
  refine Ak Ae Rq K5 [(0,1)] fun w6 K6=>?_
  refine Ay (g:=gd) (off:=fd) (cap:=dc) (sz:=21) (k:=i) (len:=ds.length) (some 102) t0 Tryz.underlying25 ?_
  refine BN 59 gd (fd + i * 21) _ (some 103) (Ag s0 q3 K6.B) ?_
  have e1:=(ht _ v0).2
  have d1:=v3 _ v0 n3
  have z2:=hn _ v0
  clear a2 v0 z1
  generalize ds.getD i default=d at s s0 z3 g2 e1 d1 z2 ⊢
  refine CY RL Rp [ι w.heap.size [η a,τ (some ⟨gd,fd,none⟩) ds.length dc] 27,ι ws.heap.size ((CU (some ⟨gd,fd,none⟩) ds.length dc (some ⟨go,fo,none⟩) (Ad a ds day).1.length oc (some b1) (some b2) (some b3))) 72,ι w6.heap.size (Bg d A1 j0 A2 c2) 59] K6 [(2,0),(1,4)] fun w7 K7=>?_
  refine AU [(3,τ pA pa.length pc),(5,ζ (w.heap.size)),(12,ζ (ws.heap.size)),(16,.map (some fb)),(17,.map (some nb)),(22,τ sA sl.length sc),(25,ζ (w6.heap.size)),(89,τ (some ⟨go,fo,none⟩) (Ad a ds day).1.length oc),(90,δ ((Ad a ds day).1.length:Int)),(91,δ (k:Int)),(104,.map (some nb)),(106,.map (some b3)),(107,τ pA pa.length pc)] fun E7=>?_
  have KF:=Wk.start w7
  refine CY (GP 59) Yx [(DC w7.heap.size false none (some nb) (some b3) pA pa.length pc none none 0 0)] KF [(0,0)] fun w8 K8=>?_
  have x1:=K7.ent 2 rfl
  refine BN 59 w6.heap.size 0 _ (some 110) (Ag (Gn x1) x1.1 K8.B) ?_
  refine AB Yw K8 [] fun w9 K9=>?_
  have t3:rowsEx w7 A2 d.body.ks:=g2.below K7.B
  refine BA (Ny w7 w7.heap.size false none (some nb) (some b3) pA pa pc [] m sx (fun p hp=>by cases hp) rfl (K7.H.all (K7.ix 5) _ (K7.at 5 rfl)) (K7.H.all (K7.ix 3) _ (K7.at 3 rfl)) (fun q hq=>⟨Cl.below (m1 q hq).1 K7.B,(m1 q hq).2⟩) (q2.below K7.B) i3 e3 f d d1 [] none [] none [] 0 A1 j0 A2 c2 w9 t3 (by simp only [List.length_nil]; omega) (by simp only [List.length_nil]; omega) (fun p hp=>by cases hp) K9.B ((Aj.add K9.H (Cf.thO none []) rfl (fun _ h=>h)).addNil 94 7 (fun e r=>r=Ch e))) fun en g0 hh=>?_
  obtain ⟨i0,a0,v,rfl,h1,z0⟩:=hh
  refine ⟨_,rfl,?_⟩
  rw [SB,l1] at z0 ⊢
  generalize hR:(BJ (Bm false [] m ps.2.2 pa) f d ([],[]))=rq at s z0 ⊢
  obtain ⟨⟨r1,r2,r3⟩,s1⟩:=rq
  have e0:Wk w g0 [ι w.heap.size [η a,τ (some ⟨gd,fd,none⟩) ds.length dc] 27,ι ws.heap.size ((CU (some ⟨gd,fd,none⟩) ds.length dc (some ⟨go,fo,none⟩) (Ad a ds day).1.length oc (some b1) (some b2) (some b3))) 72,ι w6.heap.size (Bg d A1 j0 A2 c2) 59,(DC w7.heap.size false none (some nb) (some b3) pA pa.length pc i0 a0 s1.2.length v)] ([BS (some ⟨go,fo,none⟩) oc (Ad a ds day).1,GU.th b1 ps.1,FX.th b2 ps.2.1,Eg.th b3 (sx.map fun q=>(q.1,FI q.2)),EJ.th fb fnd,Ez.th nb m,FZ sA sc sl,Th.all (sl.map Ge)]++[Cf.thO i0 s1.1,CH a0 v s1.2]) []:=K7.joinE h1 z0
  clear z0 hR
  refine Ah OC [ι w.heap.size [η a,τ (some ⟨gd,fd,none⟩) ds.length dc] 27,ι ws.heap.size ((CU (some ⟨gd,fd,none⟩) ds.length dc (some ⟨go,fo,none⟩) (Ad a ds day).1.length oc (some b1) (some b2) (some b3))) 72,ι w6.heap.size (Bg d A1 j0 A2 c2) 59,(DC w7.heap.size false none (some nb) (some b3) pA pa.length pc i0 a0 s1.2.length v),ι g0.heap.size (BT (r1,r2)) 41] e0 [(4,0)] fun k0 r0=>?_
  refine AG (!(r3 == 0)) (fun c3=>?_) (fun c3=>?_)
  ·replace s:(CX a ds day f ins pa nm)=([],r3):=by rw [s]; show cond (!(r3 == 0)) _ _=_; rw [c3]; rfl
   refine AB vw r0 [] fun l2 d0=>?_
   refine AK d0 (0,0) (.tuple #[τ none 0 0,δ r3]) ⟨none,0,[],by rw [s]; rfl,by rw [s]; rfl,d0.B,?_⟩
   exact ((d0.own0 (L':=[]) [] rfl (by decide)).addNil 44 5 (fun e r=>r=Dp e)).addFam Ge
  replace s:(CX a ds day f ins pa nm)=Dv ds ps.2.2 pa f fnd ((Ad a ds day).1.drop (k + 1)) (cond (!(AH m d.name).isSome) ((d.name,r1,r2) :: m) m) (sl.map (·.1)++[(d.name,d.frm,s1.2,r1,r2)]):=by rw [s]; show cond (!(r3 == 0)) _ _=_; rw [c3]; rfl
  refine CY Bp OB [ι w.heap.size [η a,τ (some ⟨gd,fd,none⟩) ds.length dc] 27,ι ws.heap.size ((CU (some ⟨gd,fd,none⟩) ds.length dc (some ⟨go,fo,none⟩) (Ad a ds day).1.length oc (some b1) (some b2) (some b3))) 72,ι w6.heap.size (Bg d A1 j0 A2 c2) 59,(DC w7.heap.size false none (some nb) (some b3) pA pa.length pc i0 a0 s1.2.length v),ι g0.heap.size (BT (r1,r2)) 41,ι k0.heap.size (Dp ((d.name,d.frm,s1.2,r1,r2),a0,v)) 44] r0 [(2,1),(2,6),(3,6),(4,0)] fun l2 d0=>?_
  refine Cw d0.H (d0.ix 6) (d0.at 6 rfl) ((d.name,d.frm,s1.2,r1,r2),a0,v) (Dp ((d.name,d.frm,s1.2,r1,r2),a0,v)) rfl (k0.heap.size) (d0.ent 5 (by kernel_rfl)) (CL OB) (by kernel_rfl) (.tmp 117) (.tmp 126) 29 (by kernel_rfl) (by kernel_rfl) (by kernel_rfl) (by decide) (by kernel_rfl) (by kernel_rfl) rfl rfl (by omega) fun m0 l0 k2 Hn b4=>?_
  have f4:=d0.put 6 (by simp) b4 Hn
  have i1:=f4.take 7 9 Ge sl (sl++[((d.name,d.frm,s1.2,r1,r2),a0,v)]) ((d.name,d.frm,s1.2,r1,r2),a0,v) rfl rfl (by decide) (by intro z; rw [List.mem_append,List.mem_singleton]; exact Or.comm)
  replace i1:Wk w k2 [ι w.heap.size [η a,τ (some ⟨gd,fd,none⟩) ds.length dc] 27,ι ws.heap.size ((CU (some ⟨gd,fd,none⟩) ds.length dc (some ⟨go,fo,none⟩) (Ad a ds day).1.length oc (some b1) (some b2) (some b3))) 72,ι w6.heap.size (Bg d A1 j0 A2 c2) 59,(DC w7.heap.size false none (some nb) (some b3) pA pa.length pc i0 a0 s1.2.length v),ι g0.heap.size (BT (r1,r2)) 41,ι k0.heap.size (Dp ((d.name,d.frm,s1.2,r1,r2),a0,v)) 44] ([BS (some ⟨go,fo,none⟩) oc (Ad a ds day).1,GU.th b1 ps.1,FX.th b2 ps.2.1,Eg.th b3 (sx.map fun q=>(q.1,FI q.2)),EJ.th fb fnd,Ez.th nb m,FZ m0 l0 (sl++[((d.name,d.frm,s1.2,r1,r2),a0,v)]),Th.all ((sl++[((d.name,d.frm,s1.2,r1,r2),a0,v)]).map Ge)]++[Cf.thO i0 s1.1]) []:=i1
  refine Ak Cv Ro i1 [(2,1)] fun i2 x0=>?_
  refine DN (D6 Ez (o:=CL Ro) (b:=nb) (m:=m) (x:=.tmp 129) (y:=.tmp 131) (by kernel_rfl) rfl (by kernel_rfl) d.name (by kernel_rfl) e1 (x0.H.all (x0.ix 5) _ (x0.at 5 rfl))) ?_
  refine Ah Rn [ι w.heap.size [η a,τ (some ⟨gd,fd,none⟩) ds.length dc] 27,ι ws.heap.size ((CU (some ⟨gd,fd,none⟩) ds.length dc (some ⟨go,fo,none⟩) (Ad a ds day).1.length oc (some b1) (some b2) (some b3))) 72,ι w6.heap.size (Bg d A1 j0 A2 c2) 59,(DC w7.heap.size false none (some nb) (some b3) pA pa.length pc i0 a0 s1.2.length v),ι g0.heap.size (BT (r1,r2)) 41,ι k0.heap.size (Dp ((d.name,d.frm,s1.2,r1,r2),a0,v)) 44,ι i2.heap.size (BT ((AH m d.name).getD Ez.z)) 41] x0 [(6,0)] fun p4 h2=>?_
  have a3:(sl++[((d.name,d.frm,s1.2,r1,r2),a0,v)]).map (·.1)=sl.map (·.1)++[(d.name,d.frm,s1.2,r1,r2)]:=by rw [List.map_append]; rfl
  rw [← a3] at s
  refine AG (!(AH m d.name).isSome) (fun c4=>?_) (fun c4=>?_) <;> rw [c4] at s
  ·replace s:(CX a ds day f ins pa nm)=Dv ds ps.2.2 pa f fnd ((Ad a ds day).1.drop (k + 1)) ((d.name,r1,r2) :: m) ((sl++[((d.name,d.frm,s1.2,r1,r2),a0,v)]).map (·.1)):=s
   refine Ak Eh Yv h2 [(2,1),(4,0)] fun n4 w0=>?_
   refine GC Ez w0.H (w0.ix 5) (w0.at 5 rfl) d.name (r1,r2) e1 trivial (CL Yv) (by kernel_rfl) (t:=79) (x:=.tmp 137) (y:=.tmp 139) (z:=.tmp 140) (by kernel_rfl) rfl (by kernel_rfl) (by kernel_rfl) (by kernel_rfl) (by omega) fun k4 Hn a4=>?_
   have e4:=w0.put 5 (by simp) a4 Hn
   refine AB (AZ Lt) e4 [] fun wa Ka=>?_
   refine AU [(3,τ pA pa.length pc),(5,ζ (w.heap.size)),(12,ζ (ws.heap.size)),(16,.map (some fb)),(17,.map (some nb)),(22,τ m0 (sl++[((d.name,d.frm,s1.2,r1,r2),a0,v)]).length l0),(89,τ (some ⟨go,fo,none⟩) (Ad a ds day).1.length oc),(90,δ ((Ad a ds day).1.length:Int)),(91,δ (IntKind.i64.wrap ((k:Int) + 1)))] fun Ea=>?_
   rw [Bl k (by omega)]
   refine b0 _ _ ⟨k + 1,((d.name,r1,r2) :: m),(sl++[((d.name,d.frm,s1.2,r1,r2),a0,v)]),m0,l0,Ea,c0,rfl,s,by rw [List.length_cons]; omega,by rw [List.length_append,List.length_singleton]; omega,Ka.pk [0,1] [0,1,2,3,4,5,6,7]⟩ ?_
   show (Ad a ds day).1.length - AL (δ ((k + 1:Nat):Int)) < (Ad a ds day).1.length - AL (δ (k:Int))
   simp only [AL]
   omega
  replace s:(CX a ds day f ins pa nm)=Dv ds ps.2.2 pa f fnd ((Ad a ds day).1.drop (k + 1)) m ((sl++[((d.name,d.frm,s1.2,r1,r2),a0,v)]).map (·.1)):=s
  refine AB (AZ Lt) h2 [] fun wa Ka=>?_
  refine AU [(3,τ pA pa.length pc),(5,ζ (w.heap.size)),(12,ζ (ws.heap.size)),(16,.map (some fb)),(17,.map (some nb)),(22,τ m0 (sl++[((d.name,d.frm,s1.2,r1,r2),a0,v)]).length l0),(89,τ (some ⟨go,fo,none⟩) (Ad a ds day).1.length oc),(90,δ ((Ad a ds day).1.length:Int)),(91,δ (IntKind.i64.wrap ((k:Int) + 1)))] fun Ea=>?_
  rw [Bl k (by omega)]
  refine b0 _ _ ⟨k + 1,m,(sl++[((d.name,d.frm,s1.2,r1,r2),a0,v)]),m0,l0,Ea,c0,rfl,s,by omega,by rw [List.length_append,List.length_singleton]; omega,Ka.pk [0,1] [0,1,2,3,4,5,6,7]⟩ ?_
  show (Ad a ds day).1.length - AL (δ ((k + 1:Nat):Int)) < (Ad a ds day).1.length - AL (δ (k:Int))
  simp only [AL]
  omega
 have k3:k=(Ad a ds day).1.length:=by have:=of_decide_eq_false c1; omega
 rw [k3,List.drop_length,Dv] at s
 refine AB vu K2 [] fun w3 K3=>?_
 refine AK K3 (0,0) (.tuple #[τ sA sl.length sc,δ 0]) ⟨sA,sc,sl,by rw [s],by rw [s],K3.B,?_⟩
 exact K3.own0 (L':=[FZ sA sc sl,Th.all (sl.map Ge)]) [6,7] rfl (by decide)
end
end Go.Proofs.YtkjbdagicjbjjaaGreat

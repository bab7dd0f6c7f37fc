/- Contracts of functions, part 34. -/
import Derived.Test.YtkjbdagicjbjjaaGreatTs33
set_option linter.all false
namespace Go.Proofs.YtkjbdagicjbjjaaGreat
noncomputable section
open Go.RowKit
set_option maxRecDepth 100000
set_option maxHeartbeats 1000000
abbrev GK:=List (List UInt8×Bool)×List (List UInt8×Int)×List (List UInt8×List Gd)
def IG (ds:List Df) (j:Nat) (s:GK):GK:=
 cond ((ds.getD j default).kind == 1) (((ds.getD j default).name,true) :: s.1,s.2)
 (cond ((ds.getD j default).kind == 2) (cond (!(AH s.2.2 (ds.getD j default).name).isSome) (s.1,s.2.1,((ds.getD j default).name,(ds.getD j default).ents) :: s.2.2) s)
 (cond ((ds.getD j default).kind == 3 || (ds.getD j default).kind == 4) (cond (!(AH s.2.1 (ds.getD j default).name).isSome) (s.1,((ds.getD j default).name,(j:Int)) :: s.2.1,s.2.2) s) s))
def Dr (ds:List Df):List Nat→GK→GK
 | [],s=>s
 | j :: r,s=>Dr ds r (IG ds j s)
def CJ (n:List UInt8) (ds:List Df) (day:Int):Int:=cond (!((Ca n ds).2 == 0)) (Ca n ds).2 (cond (cond (decide (day < 0)) true (decide (84005 < day))) 2 (cond (decide (0 < ((Ca n ds).1.length:Int))) ((Ca n ds).1.getD 0 default).2 (Ad n ds day).2))
def Ap (n:List UInt8) (ds:List Df) (day:Int):GK:=Dr ds (Ct n ds day) ([],[],[])
abbrev CU (dA:Option Addr) (dn dc:Nat) (oA:Option Addr) (on oc:Nat) (b1 b2 b3:Option Nat):List Value:=[τ dA dn dc,τ oA on oc,.map b1,.map b2,.map b3]
theorem JQ {n:List UInt8} {ds:List Df} (h:(!((Ca n ds).2 == 0))=false):EK n ds=true:=by
 cases hv:EK n ds
 ·unfold Ca at h
  rw [hv] at h
  cases h
 rfl
theorem UP:∀ {ds:List Df},C2 ds=true→∀ d∈ds,Fg d=true
 | e :: ds,h,d,hd=>by
  rw [C2] at h
  cases hv:Fg e
  ·rw [hv] at h
   revert h
   cases !(Tk.isName e.name) <;> intro h <;> cases h
  rcases List.mem_cons.1 hd with rfl | hd
  ·exact hv
  refine UP (ds:=ds) ?_ d hd
  rw [hv] at h
  revert h
  cases !(Tk.isName e.name)
  ·exact id
  intro h; cases h
theorem aW {n:List UInt8} {ds:List Df} (h:EK n ds=true):∀ d∈ds,(d.kind == 2)=true→0 < d.ents.length∧d.ents.length≤64:=by
 intro d hd i
 have g:C2 ds=true:=by
  unfold EK at h
  revert h
  cases (cond (!(Tk.isName n)) true (decide (128 < (ds.length:Int))))
  ·exact id
  intro h; cases h
 have hv:=UP g d hd
 obtain ⟨kind,name,tb,tm,th,td,frm,ents,⟨op,num,den,mu,hu,du,nm,cnt,md,kids⟩,mode,a,b⟩:=d
 have f:kind=2:=eq_of_beq i
 subst f
 replace hv:(cond (cond (cond (cond (cond (cond (Dd tb tm th td) (!tb) false) (GV frm) false) (D0 ents) false) (G5 op num den mu hu du nm cnt md kids.length) false) (mode == 0) false) ((a == 0) && (b == 0)) false)=true:=hv
 have c:D0 ents=true:=by
  cases c:D0 ents
  ·rw [c] at hv
   revert hv
   cases (cond (cond (Dd tb tm th td) (!tb) false) (GV frm) false) <;> intro hv <;> cases hv
  rfl
 unfold D0 at c
 show 0 < ents.length∧ents.length≤64
 have e:(cond (decide ((ents.length:Int) < 1)) true (decide (64 < (ents.length:Int))))=false:=by
  cases hc:(cond (decide ((ents.length:Int) < 1)) true (decide (64 < (ents.length:Int))))
  ·rfl
  rw [hc] at c; cases c
 cases h1:decide ((ents.length:Int) < 1)
 ·rw [h1] at e
  have:=of_decide_eq_false h1
  have:=of_decide_eq_false (show decide (64 < (ents.length:Int))=false from e)
  omega
 rw [h1] at e; cases e
theorem Cs.spot {w:World} {A:Option Addr} {es:List Gd} (h:Cs w A es) (hl:0 < es.length):∀ a,A=some a→a.spot=none:=by
 obtain ⟨g,off,rfl,_⟩:=h.all hl
 intro a ha
 obtain rfl:=Option.some.inj ha
 rfl
theorem AN.keepW {P:Program} {o:Oper} {ρ:Operand→Value} {w0 u:World} {M:List A7} {L T:List Th} {K:Value→World→Prop} (c:Wk w0 u M L T) (hint:Nat×Nat)
  (h:(Cd P (execOp ρ o) ⟨ε u,M,hint,[]⟩).map (fun r=>(D5 r.1,r.2.mem,r.2.eqs.map Prod.fst))=(Cd P (execOp ρ o) ⟨ε u,M,hint,[]⟩).map (fun r=>(some undef,M,r.2.eqs.map Prod.snd)))
  (hs:(Cd P (execOp ρ o) ⟨ε u,M,hint,[]⟩).isSome=true) (ho:M.all (·.own)=true) (i:∀ w',Wk w0 w' M L T→K undef w'):AN P o ρ u K:=by
 obtain ⟨⟨b,d⟩,hm⟩:=Option.isSome_iff_exists.1 hs
 rw [hm] at h
 simp only [Option.map_some,Option.some.injEq,Prod.mk.injEq] at h
 obtain ⟨g,h2,j⟩:=h
 have hv:b=.value undef∨(b=.skip∧undef=undef):=by
  cases b <;> simp [D5] at g
  ·exact .inl (by rw [g])
  exact .inr ⟨rfl,rfl⟩
 have a:EU (M.map (·.id)) (ε u) u ⟨ε u,M,hint,[]⟩:=by
  have:=c.H.lies
  exact ⟨this.sat,this.le,this.own⟩
 refine AN.runsK ⟨ε u,M,hint,[]⟩ d b undef (hm:=hm) hv a j fun w' e f=>i w' ⟨c.B.trans (c.H.keptB f),?_⟩
 have:=c.H.run e f (by rw [h2]; exact ho)
 rwa [h2] at this
theorem Fq (ds:List Df):∀ (es:List Df) (i:Nat) (a:List (Int×Int)),(∀ p∈a,p.2≠0)→∀ p∈(CF ds es i a).1,p.2≠0
 | [],_,_,h=>h
 | e :: es,i,a,h=>by
  have b:∀ v:Int,v≠0→∀ p∈a++[((i:Int),v)],p.2≠0:=fun v hv p c=>by
   rcases List.mem_append.1 c with c | c
   ·exact h p c
   rw [List.mem_singleton.1 c]; exact hv
  rw [CF]
  cases DL (fun x=>Eb x e) (ds.take i)
  ·simp only [cond_false]
   cases e.kind == 5
   ·simp only [cond_false]
    cases (cond (e.kind == 3) (true) (e.kind == 4))
    ·exact Fq ds es _ _ h
    simp only [cond_true]
    cases hc:!(Cz e (((AW ds)).1) (((AW ds)).2.1) (((AW ds)).2.2) == 0)
    ·exact Fq ds es _ _ h
    exact Fq ds es _ _ (b _ (by simpa using hc))
   simp only [cond_true]
   cases hc:!((Cp e (((AW ds)).1)) == 0)
   ·exact Fq ds es _ _ h
   exact Fq ds es _ _ (b _ (by simpa using hc))
  exact Fq ds es _ _ (b 8 (by decide))
theorem S9 (n:List UInt8) (ds:List Df):∀ p∈(Ca n ds).1,p.2≠0:=by
 unfold Ca
 cases !(EK n ds)
 ·exact Fq ds ds 0 [] (fun p a=>by cases a)
 intro p a; cases a
attribute [local irreducible] BD BP AC AD AF Ar AZ AM Aw Bk C6 BV EE C5 BO At Fr
noncomputable def Z3:Code:=Tryz.f23.body.getD .skip
def sS:=ν [.code Z3]
def cL:=Ω sS
def ADE:=Ξ cL
def sR:=Al 4 (AF cL)
def cK:=AI sR
def ADD:=Ξ cK
def cJ:=Ψ cK
def cI:=Al 7 (AD cJ)
def ADC:=AI cI
def sQ:=Ψ cJ
def QL:=Ω sQ
def xv:=Ξ QL
def QK:=AA (An ES 90 (AF QL)) (AF QL)
def QJ:=AA (An ES 90 (AC QK)) (AC QK)
def U9:=AA (An ES 90 (AC QJ)) (AC QJ)
def jL:=Ω U9
def JU:=Ω jL
def QI:=ν (Ar JU)
def U8:=AA (An Ae 90 (AD QI)) (AD QI)
def jK:=AA (An Ae 90 (AC (AC U8))) (AC (AC U8))
def QH:=ν (AC (AC jK))
def jJ:=AA (An Eh 90 (AD QH)) (AD QH)
def QG:=Ψ QH
def U7:=AA (An Cv 90 (AD QG)) (AD QG)
def U6:=Ω U7
def jI:=AA (An Eh 90 (AD U6)) (AD U6)
def jH:=Ψ QG
def NQ:=Ξ jH
def U5:=AA (An Cv 90 (AD NQ)) (AD NQ)
def U4:=Ω U5
def jG:=AA (An Eh 90 (AD U4)) (AD U4)
def xu:=Ψ QI
def mF:Array Oper:=AR cI
def ABu:Wr:=[(36,0),(37,1),(38,2),(39,3),(40,4)]
theorem Ou (p0a:List UInt8) (dA:Option Addr) (ds:List Df) (dc:Nat) (day:Int) (w0 w:World) (h0:rowsDf w0 dA ds) (BB:Below w0.heap.size w0 w) (hl_ds:ds.length≤1000000000) (hcap:ds.length≤dc) (hs:p0a.length≤4294967296) (ht:∀ d∈ds,Fc d) (hlim:∀ d∈ds,Dm d.body) (hn:∀ d∈ds,nE d.body≤1000000) :
  Calls Tryz.prog 23 ([.agg ⟨[.string ⟨⟨p0a⟩⟩,.slice dA ds.length dc]⟩,δ day]:List Value).toArray w fun e w'=>(e=.returned (.tuple #[.agg ⟨CU none 0 0 none 0 0 none none none⟩,δ (CJ p0a ds day)])∧CJ p0a ds day≠0∧Below w.heap.size w w')∨∃ oA oc b1 b2 b3,∃ (sx:List (List UInt8×Gy)),CJ p0a ds day=0∧e=.returned (.tuple #[.agg ⟨CU dA ds.length dc oA (Ad p0a ds day).1.length oc (some b1) (some b2) (some b3)⟩,δ 0])∧(sx.map fun q=>(q.1,q.2.1))=(Ap p0a ds day).2.2∧(∀ q∈sx,Cs w0 q.2.2.1 q.2.1∧q.2.1.length≤4294967296)∧Below w.heap.size w w'∧Aj w.heap.size w' [BS oA oc (Ad p0a ds day).1,GU.th b1 (Ap p0a ds day).1,FX.th b2 (Ap p0a ds day).2.1,Eg.th b3 (sx.map fun q=>(q.1,FI q.2))]:=by
 refine AS (fn:=Tryz.f23) (c:=Z3) (n:=117) ?_
 have K0:=Wk.start w
 have h_ds:=h0.below BB
 have hE:CJ p0a ds day=cond (!((Ca p0a ds).2 == 0)) (Ca p0a ds).2 (cond (cond (decide (day < 0)) true (decide (84005 < day))) 2 (cond (decide (0 < ((Ca p0a ds).1.length:Int))) ((Ca p0a ds).1.getD 0 default).2 (Ad p0a ds day).2)):=rfl
 refine Ah sS [⟨w.heap.size,0,[.string ⟨⟨p0a⟩⟩,.slice dA ds.length dc],27,true⟩,⟨w.heap.size + 1,0,(CU none 0 0 none 0 0 none none none),72,true⟩] K0 [(0,0)] fun w1 K1=>?_
 refine BA (nv p0a dA ds dc w1 (h_ds.below K1.B) (by omega) hs ht hcap) fun en w2 hh=>?_
 obtain ⟨pA,pc,rfl,b2,Hn⟩:=hh
 refine ⟨_,rfl,?_⟩
 have K2:=K1.join b2 Hn
 refine AB cL K2 [] fun w3 K3=>?_
 refine AG (!((Ca p0a ds).2 == 0)) (fun cc1=>?_) (fun cc1=>?_) <;> rw [cc1] at hE
 ·have hne:(Ca p0a ds).2≠0:=by simpa using cc1
  refine Am ADE K3 [(1,0)] fun w4 K4=>?_
  exact AK K4 (1,0) (.tuple #[.agg ⟨CU none 0 0 none 0 0 none none none⟩,δ (Ca p0a ds).2]) (.inl ⟨by rw [show CJ p0a ds day=(Ca p0a ds).2 from hE],by rw [show CJ p0a ds day=(Ca p0a ds).2 from hE]; exact hne,K4.B⟩)
 refine As 4 sR K3 [] fun w4 K4=>?_
 refine Av K4 [] [] K4.G (fun sp hsp=>by cases hsp) fun w5 E5 K5=>?_
 refine AB cK K5 [] fun w6 K6=>?_
 refine AG (cond (decide (day < 0)) true (decide (84005 < day))) (fun cc2=>?_) (fun cc2=>?_) <;> rw [cc2] at hE
 ·have hne:(2:Int)≠0:=by decide
  refine Am ADD K6 [(1,0)] fun w7 K7=>?_
  exact AK K7 (1,0) (.tuple #[.agg ⟨CU none 0 0 none 0 0 none none none⟩,δ 2]) (.inl ⟨by rw [show CJ p0a ds day=2 from hE],by rw [show CJ p0a ds day=2 from hE]; exact hne,K7.B⟩)
 refine AB cJ K6 [] fun w7 K7=>?_
 have hprow:=K7.H.rowsPb (K7.ix 0) (K7.at 0 rfl)
 have hpe:∀ p∈(Ca p0a ds).1,p.2≠0:=S9 p0a ds
 refine AG (decide (0 < ((Ca p0a ds).1.length:Int))) (fun cc3=>?_) (fun cc3=>?_) <;> rw [cc3] at hE
 ·have hlt:0 < (Ca p0a ds).1.length:=by have:=of_decide_eq_true cc3; omega
  have hd0:(Ca p0a ds).1[0]?=some ((Ca p0a ds).1.getD 0 default):=getD_some default hlt
  have hne:=hpe _ (List.mem_of_getElem? hd0)
  generalize (Ca p0a ds).1.getD 0 default=pb at hE hd0 hne
  generalize hcl:(Ca p0a ds).1=cl at hE hd0 hlt hprow K7 ⊢
  obtain ⟨gp,fp,rfl,hgp,hpa⟩:=hprow.all hlt
  refine As 7 cI K7 [] fun w8 K8=>?_
  obtain ⟨g3,f3,h3,hgp3,hpa3⟩:=(K8.H.rowsPb (K8.ix 0) (K8.at 0 rfl)).all hlt
  obtain ⟨rfl,rfl⟩:gp=g3∧fp=f3:=by injection h3 with h3; injection h3 with h3 h4; exact ⟨h3,h4⟩
  have hr0:=hpa3 0 pb hd0
  refine ER mF 7 ?_
  refine D8 (md:=.any) (fuel:=1) (L:=[Bd 0 [] (.agg ⟨CU none 0 0 none 0 0 none none none⟩),Bd 1 [] (.slice (some ⟨gp,fp,none⟩) cl.length pc),Bd 2 [1] (.pointer (some ⟨gp,fp + 0 * 2,none⟩)),Bd 3 [1,2] (.pointer (some ⟨gp,fp + 0 * 2 + 1,none⟩)),Bd 4 [1,2,3] (δ pb.2),⟨5,[0],[],fun _ _=>True⟩]) (W:=ABu) (C:=fun u=>Wk w u [⟨w.heap.size,0,[.string ⟨⟨p0a⟩⟩,.slice dA ds.length dc],27,true⟩,⟨w.heap.size + 1,0,(CU none 0 0 none 0 0 none none none),72,true⟩] [LX (some ⟨gp,fp,none⟩) pc cl] []) (Ext:=fun _ _=>True) (K8.below (Below.refl _ _).drew) (fun _=>trivial) (fun _ _ _ _ _=>trivial) ⟨?_,?_,?_,?_,?_,?_,trivial⟩ rfl ?_
  ·exact ⟨fun _ _ _ _ _ h=>h,fun vals u hu hb=>AN.knownE [] trivial (AN.reads ⟨0,[],(0,0),[]⟩ (fun e he=>by cases he) (.agg ⟨CU none 0 0 none 0 0 none none none⟩) ⟨hu,trivial,rfl⟩)⟩
  ·exact ⟨fun _ _ _ _ _ h=>h,fun vals u hu hb=>AN.knownE [] trivial (AN.reads ⟨0,[],(0,0),[]⟩ (fun e he=>by cases he) (.slice (some ⟨gp,fp,none⟩) cl.length pc) ⟨hu,trivial,rfl⟩)⟩
  ·refine ⟨fun _ _ _ _ _ h=>h,fun vals u hu hb=>?_⟩
   obtain ⟨h1,_⟩:=hb
   exact AN.knownE [(37,1,.slice (some ⟨gp,fp,none⟩) cl.length pc)] ⟨(List.cons.inj h1).1,trivial⟩ (AN.value (CE (sz:=2) (k:=0) (cap:=pc) 102 (.tmp 37) (.const (δ 0)) (hx:=rfl) hlt Tryz.underlying102) ⟨hu,trivial,rfl⟩)
  ·refine ⟨fun _ _ _ _ _ h=>h,fun vals u hu hb=>?_⟩
   obtain ⟨h1,h2,_⟩:=hb
   exact AN.knownE [(38,2,.pointer (some ⟨gp,fp + 0 * 2,none⟩))] ⟨(List.cons.inj h2).1,trivial⟩ (AN.reads ⟨0,[],(0,0),[]⟩ (fun e he=>by cases he) (.pointer (some ⟨gp,fp + 0 * 2 + 1,none⟩)) ⟨hu,trivial,rfl⟩)
  ·refine ⟨fun _ _ _ _ _ h=>h,fun vals u hu hb=>?_⟩
   obtain ⟨h1,h2,h3,_⟩:=hb
   obtain ⟨g4,f4,h4,hg4,ha4⟩:=(hu.H.rowsPb (hu.ix 0) (hu.at 0 rfl)).all hlt
   obtain ⟨rfl,rfl⟩:gp=g4∧fp=f4:=by injection h4 with h4; injection h4 with h4 h5; exact ⟨h4,h5⟩
   exact AN.knownE [(39,3,.pointer (some ⟨gp,fp + 0 * 2 + 1,none⟩))] ⟨(List.cons.inj h3).1,trivial⟩ (AN.reads ⟨0,[⟨gp,fp + 0 * 2,mB pb,106,false⟩],(0,1),[]⟩ (fun e he=>by rw [List.mem_singleton.1 he]; exact ⟨hg4,ha4 0 pb hd0⟩) (δ pb.2) ⟨hu,trivial,rfl⟩)
  ·refine ⟨fun _ _ _ _ _ h=>h,fun vals u hu hb=>?_⟩
   obtain ⟨h0,_⟩:=hb
   exact AN.knownE [(36,0,.agg ⟨CU none 0 0 none 0 0 none none none⟩)] ⟨(List.cons.inj h0).1,trivial⟩ (AN.keepW hu (1,0) (by kernel_rfl) (by kernel_rfl) (by kernel_rfl) fun w' Kw=>⟨Kw,trivial,trivial⟩)
  intro vals w9 K9 _ hall
  obtain ⟨_,_,_,_,x4,_⟩:=hall
  refine Bs [(4,.pointer (some ⟨w.heap.size + 1,0,none⟩)),(40,vals 4)] fun E9=>?_
  rw [show vals 4=δ pb.2 from (List.cons.inj x4).1]
  refine Ii (i:=6) (fuel:=0) (v:=δ pb.2) (w':=w9) (mF.getD 6 default) (by kernel_rfl) (FN ⟨rfl,At.mid ?_⟩)
  refine AB ADC K9 [] fun w10 K10=>?_
  exact AK K10 (1,0) (.tuple #[.agg ⟨CU none 0 0 none 0 0 none none none⟩,δ pb.2]) (.inl ⟨by rw [show CJ p0a ds day=pb.2 from hE],by rw [show CJ p0a ds day=pb.2 from hE]; exact hne,K10.B⟩)
 refine AB sQ K7 [(0,0)] fun w8 K8=>?_
 refine BA (oB p0a dA ds dc day w8 (h_ds.below K8.B) (by omega) hs ht hlim hn) fun en w9 hh=>?_
 obtain ⟨oA,oc,rfl,b9,Hn⟩:=hh
 refine ⟨_,rfl,?_⟩
 have K9:=K8.join b9 Hn
 refine AB QL K9 [] fun w10 K10=>?_
 refine AG (!((Ad p0a ds day).2 == 0)) (fun cc4=>?_) (fun cc4=>?_)
 ·have hne:(Ad p0a ds day).2≠0:=by simpa using cc4
  refine Am xv K10 [(1,0)] fun w11 K11=>?_
  exact AK K11 (1,0) (.tuple #[.agg ⟨CU none 0 0 none 0 0 none none none⟩,δ (Ad p0a ds day).2]) (.inl ⟨by rw [show CJ p0a ds day=(Ad p0a ds day).2 from hE],by rw [show CJ p0a ds day=(Ad p0a ds day).2 from hE]; exact hne,K11.B⟩)
 have hE0:CJ p0a ds day=0:=by
  have h0:(Ad p0a ds day).2=0:=by simpa using cc4
  rw [← h0]; exact hE
 clear hE cc4 cc3 cc2 hprow hpe
 have hents:=aW (JQ cc1)
 clear cc1
 have K11:Wk w w10 [⟨w.heap.size,0,[.string ⟨⟨p0a⟩⟩,.slice dA ds.length dc],27,true⟩,⟨w.heap.size + 1,0,(CU none 0 0 none 0 0 none none none),72,true⟩] [BS oA oc (Ad p0a ds day).1] []:=K10.pk [0,1] [1]
 refine Ak ES QK K11 [(0,1)] fun w12 K12=>?_
 refine FV GU K12.H (CL QK) (by kernel_rfl) (t:=68) (by kernel_rfl) fun w13 _ Hn b13=>?_
 have K13:=K12.add b13 Hn
 generalize w12.heap.size=b1 at K13 ⊢
 refine Ak ES QJ K13 [] fun w14 K14=>?_
 refine FV FX K14.H (CL QJ) (by kernel_rfl) (t:=69) (by kernel_rfl) fun w15 _ Hn b15=>?_
 have K15:=K14.add b15 Hn
 generalize w14.heap.size=b2 at K15 ⊢
 refine Ak ES U9 K15 [] fun w16 K16=>?_
 refine FV Eg K16.H (CL U9) (by kernel_rfl) (t:=70) (by kernel_rfl) fun wb _ Hn b17=>?_
 have K17:=K16.add b17 Hn
 generalize w16.heap.size=b3 at K17 ⊢
 refine Ah jL [⟨w.heap.size,0,[.string ⟨⟨p0a⟩⟩,.slice dA ds.length dc],27,true⟩,⟨w.heap.size + 1,0,(CU none 0 0 none 0 0 none none none),72,true⟩,⟨wb.heap.size,0,(CU dA ds.length dc oA (Ad p0a ds day).1.length oc (some b1) (some b2) (some b3)),72,true⟩] K17 [(2,0),(0,0)] fun w18 K18=>?_
 refine BA (iD p0a dA ds dc day w18 (h_ds.below K18.B) (by omega) hs ht) fun en w19 hh=>?_
 obtain ⟨aA,ac,rfl,b19,Hn⟩:=hh
 refine ⟨_,rfl,?_⟩
 have K19:=K18.join b19 Hn
 have hal:=Yr (n:=p0a) (ds:=ds) (p1:=day)
 have hain:=Ew (n:=p0a) (ds:=ds) (p1:=day)
 have hP:Ap p0a ds day=Dr ds (Ct p0a ds day) ([],[],[]):=rfl
 generalize Ct p0a ds day=act at hal hain hP K19 ⊢
 generalize Ap p0a ds day=ps at hP ⊢
 refine AB JU K19 [] fun w20 K20=>?_
 refine AU [(2,.pointer (some ⟨w.heap.size,0,none⟩)),(4,.pointer (some ⟨w.heap.size + 1,0,none⟩)),(9,.pointer (some ⟨wb.heap.size,0,none⟩)),(60,.slice aA act.length ac),(61,δ (act.length:Int)),(62,δ ((0:Nat):Int))] fun E20=>?_
 refine Bo (by kernel_rfl) (fun E wx=>∃ (j:Nat) (s:GK) (sx:List (List UInt8×Gy)) (E0:Nat→Value),j≤act.length∧E=BE E0 [(2,.pointer (some ⟨w.heap.size,0,none⟩)),(4,.pointer (some ⟨w.heap.size + 1,0,none⟩)),(9,.pointer (some ⟨wb.heap.size,0,none⟩)),(60,.slice aA act.length ac),(61,δ (act.length:Int)),(62,δ (j:Int))]∧ps=Dr ds (act.drop j) s∧(sx.map fun q=>(q.1,q.2.1))=s.2.2∧(∀ q∈sx,Cs w0 q.2.2.1 q.2.1∧q.2.1.length≤4294967296)∧s.1.length≤j∧s.2.1.length≤j∧s.2.2.length≤j∧Wk w wx [⟨w.heap.size,0,[.string ⟨⟨p0a⟩⟩,.slice dA ds.length dc],27,true⟩,⟨w.heap.size + 1,0,(CU none 0 0 none 0 0 none none none),72,true⟩,⟨wb.heap.size,0,(CU dA ds.length dc oA (Ad p0a ds day).1.length oc (some b1) (some b2) (some b3)),72,true⟩] [BS oA oc (Ad p0a ds day).1,GU.th b1 s.1,FX.th b2 s.2.1,Eg.th b3 (sx.map fun q=>(q.1,FI q.2)),BS aA ac act] []) (fun E _=>act.length - AL (E 62)) ⟨0,([],[],[]),[],E20,Nat.zero_le _,rfl,hP,rfl,(fun q hq=>by cases hq),Nat.le_refl _,Nat.le_refl _,Nat.le_refl _,K20⟩ ?_
 clear K20 K19 K18 K17 K16 K15 K14 K13 K12 K11 K10 K9 K8 K7 K6 K5 K4 K3 K2 K1 hP Hn
 rintro E wx ⟨j,s,sx,E0,hj,rfl,hP,hsx,hse,l1,l2,l3,K1⟩ again
 have hsl:sx.length=s.2.2.length:=by rw [← hsx,List.length_map]
 refine AB QI K1 [] fun w2 K2=>?_
 refine AG (decide ((j:Int) < (act.length:Int))) (fun c1=>?_) (fun c1=>?_)
 ·have hlt:j < act.length:=by have:=of_decide_eq_true c1; omega
  obtain ⟨x,hx⟩:∃ x,act[j]?=some x:=⟨_,List.getElem?_eq_getElem hlt⟩
  have hxl:x < ds.length:=hain x (List.mem_of_getElem? hx)
  have hdr:act.drop j=x :: act.drop (j + 1):=by
   have he:act[j]=x:=(List.getElem?_eq_some_iff.1 hx).2
   rw [← List.getElem_cons_drop hlt,he]
  rw [hdr,Dr] at hP
  obtain ⟨ga,fa,rfl,hga,haa⟩:=(K2.H.rowsNat (K2.ix 4) (K2.at 4 rfl)).all (by omega)
  refine Ak Ae U8 K2 [] fun w3 K3=>?_
  obtain ⟨g3,f3,h3,hga3,haa3⟩:=(K3.H.rowsNat (K3.ix 4) (K3.at 4 rfl)).all (by omega)
  obtain ⟨rfl,rfl⟩:ga=g3∧fa=f3:=by injection h3 with h3; injection h3 with h3 h4; exact ⟨h3,h4⟩
  refine Ay (g:=ga) (off:=fa) (cap:=ac) (sz:=1) (k:=j) (len:=act.length) (some 64) hlt Tryz.underlying22 ?_
  refine Dz 3 ga (fa + j * 1) (δ (x:Int)) (some 65) (by simpa using haa3 j _ hx 0 _ rfl) ?_
  obtain ⟨gd,fd,rfl,hgd,hda⟩:=h0.all (by omega)
  have hd0:ds[x]?=some (ds.getD x default):=getD_some default hxl
  have hdm:=DR (l:=ds) hxl
  obtain ⟨A1,c1',A2,c2,hr0,hR1,hR2⟩:=hda x _ hd0
  refine Ak Ae jK K3 [(0,1)] fun w4 K4=>?_
  refine Ay (g:=gd) (off:=fd) (cap:=dc) (sz:=21) (k:=x) (len:=ds.length) (some 69) hxl Tryz.underlying25 ?_
  refine BN 59 gd (fd + x * 21) _ (some 70) (Ag hr0 hgd (BB.trans (K4.B.mono BB.size))) ?_
  have hnl:=(ht _ hdm).2
  have hen:=hents _ hdm
  have hp1:IG ds x s=cond ((ds.getD x default).kind == 1) (((ds.getD x default).name,true) :: s.1,s.2)
   (cond ((ds.getD x default).kind == 2) (cond (!(AH s.2.2 (ds.getD x default).name).isSome) (s.1,s.2.1,((ds.getD x default).name,(ds.getD x default).ents) :: s.2.2) s)
   (cond ((ds.getD x default).kind == 3 || (ds.getD x default).kind == 4) (cond (!(AH s.2.1 (ds.getD x default).name).isSome) (s.1,((ds.getD x default).name,(x:Int)) :: s.2.1,s.2.2) s) s)):=rfl
  rw [hp1] at hP
  clear hp1 hd0 hdm
  generalize ds.getD x default=d at hP hnl hen hr0 hR1 hR2 ⊢
  refine Ah QH [⟨w.heap.size,0,[.string ⟨⟨p0a⟩⟩,.slice (some ⟨gd,fd,none⟩) ds.length dc],27,true⟩,⟨w.heap.size + 1,0,(CU none 0 0 none 0 0 none none none),72,true⟩,⟨wb.heap.size,0,(CU (some ⟨gd,fd,none⟩) ds.length dc oA (Ad p0a ds day).1.length oc (some b1) (some b2) (some b3)),72,true⟩,⟨w4.heap.size,0,Bg d A1 c1' A2 c2,59,true⟩] K4 [(3,0),(3,0)] fun w5 K5=>?_
  refine AG (d.kind == 1) (fun k1=>?_) (fun k1=>?_) <;> rw [k1] at hP
  ·replace hP:ps=Dr ds (act.drop (j + 1)) ((d.name,true) :: s.1,s.2):=hP
   refine Ak Eh jJ K5 [(2,2),(3,1)] fun w6 K6=>?_
   refine GC GU K6.H (K6.ix 1) (K6.at 1 rfl) d.name true hnl trivial (CL jJ) (by kernel_rfl) (t:=68) (x:=.tmp 76) (y:=.tmp 78) (z:=.const (.bool true)) (by kernel_rfl) rfl (by kernel_rfl) (by kernel_rfl) (by kernel_rfl) (by omega) fun w7 Hn b7=>?_
   have K7:=K6.put 1 (by simp) b7 Hn
   refine AB (AZ JU) K7 [] fun w9 K9=>?_
   refine AU [(2,.pointer (some ⟨w.heap.size,0,none⟩)),(4,.pointer (some ⟨w.heap.size + 1,0,none⟩)),(9,.pointer (some ⟨wb.heap.size,0,none⟩)),(60,.slice (some ⟨ga,fa,none⟩) act.length ac),(61,δ (act.length:Int)),(62,δ (IntKind.i64.wrap ((j:Int) + 1)))] fun E9=>?_
   rw [Bl j (by omega)]
   refine again _ _ ⟨j + 1,((d.name,true) :: s.1,s.2),sx,E9,hlt,rfl,hP,hsx,hse,by rw [List.length_cons]; omega,by show s.2.1.length≤_; omega,by show s.2.2.length≤_; omega,K9.pk [0,1,2] [0,1,2,3,4]⟩ ?_
   show act.length - AL (δ ((j + 1:Nat):Int)) < act.length - AL (δ (j:Int))
   simp only [AL]
   omega
  refine AB QG K5 [] fun w6 K6=>?_
  refine AG (d.kind == 2) (fun k2=>?_) (fun k2=>?_) <;> rw [k2] at hP
  ·replace hP:ps=Dr ds (act.drop (j + 1)) (cond (!(AH s.2.2 d.name).isSome) (s.1,s.2.1,(d.name,d.ents) :: s.2.2) s):=hP
   have hlk:(AH (sx.map fun q=>(q.1,FI q.2)) d.name).isSome=(AH s.2.2 d.name).isSome:=by rw [← hsx,FA,FA,Option.isSome_map,Option.isSome_map]
   refine Ak Cv U7 K6 [(2,4),(3,1)] fun w7 K7=>?_
   refine DN (v:=.tuple #[Eg.ev ((AH (sx.map (fun q:List UInt8×Gy=>(q.1,FI q.2))) d.name).getD Eg.z),.bool (AH s.2.2 d.name).isSome]) (by rw [← hlk]; exact D6 Eg (o:=CL U7) (b:=b3) (m:=sx.map (fun q:List UInt8×Gy=>(q.1,FI q.2))) (x:=.tmp 83) (y:=.tmp 85) (by kernel_rfl) rfl (by kernel_rfl) d.name (by kernel_rfl) hnl (K7.H.all (K7.ix 3) _ (K7.at 3 rfl))) ?_
   refine AB U6 K7 [] fun w8 K8=>?_
   refine AG (!(AH s.2.2 d.name).isSome) (fun c3=>?_) (fun c3=>?_) <;> rw [c3] at hP
   ·replace hP:ps=Dr ds (act.drop (j + 1)) (s.1,s.2.1,(d.name,d.ents) :: s.2.2):=hP
    have he:=hen k2
    refine Ak Eh jI K8 [(2,4),(3,1),(3,7)] fun w6 K6=>?_
    refine GC Eg K6.H (K6.ix 3) (K6.at 3 rfl) d.name (A1,d.ents.length,c1') hnl (hR1.spot he.1) (CL jI) (by kernel_rfl) (t:=70) (x:=.tmp 92) (y:=.tmp 94) (z:=.tmp 96) (by kernel_rfl) rfl (by kernel_rfl) (by kernel_rfl) (by kernel_rfl) (by rw [List.length_map]; omega) fun w7 Hn b7=>?_
    have K7:=K6.put 3 (by simp) b7 Hn
    refine AB (AZ JU) K7 [] fun w9 K9=>?_
    refine AU [(2,.pointer (some ⟨w.heap.size,0,none⟩)),(4,.pointer (some ⟨w.heap.size + 1,0,none⟩)),(9,.pointer (some ⟨wb.heap.size,0,none⟩)),(60,.slice (some ⟨ga,fa,none⟩) act.length ac),(61,δ (act.length:Int)),(62,δ (IntKind.i64.wrap ((j:Int) + 1)))] fun E9=>?_
    rw [Bl j (by omega)]
    refine again _ _ ⟨j + 1,(s.1,s.2.1,(d.name,d.ents) :: s.2.2),(d.name,d.ents,A1,c1') :: sx,E9,hlt,rfl,hP,by rw [List.map_cons,hsx],fun q hq=>by rcases List.mem_cons.1 hq with rfl | hq; exact ⟨hR1,by show d.ents.length≤_; omega⟩; exact hse q hq,by show s.1.length≤_; omega,by show s.2.1.length≤_; omega,by show (_ :: s.2.2).length≤_; rw [List.length_cons]; omega,K9.pk [0,1,2] [0,1,2,3,4]⟩ ?_
    show act.length - AL (δ ((j + 1:Nat):Int)) < act.length - AL (δ (j:Int))
    simp only [AL]
    omega
   replace hP:ps=Dr ds (act.drop (j + 1)) s:=hP
   refine AB (AZ JU) K8 [] fun w9 K9=>?_
   refine AU [(2,.pointer (some ⟨w.heap.size,0,none⟩)),(4,.pointer (some ⟨w.heap.size + 1,0,none⟩)),(9,.pointer (some ⟨wb.heap.size,0,none⟩)),(60,.slice (some ⟨ga,fa,none⟩) act.length ac),(61,δ (act.length:Int)),(62,δ (IntKind.i64.wrap ((j:Int) + 1)))] fun E9=>?_
   rw [Bl j (by omega)]
   refine again _ _ ⟨j + 1,s,sx,E9,hlt,rfl,hP,hsx,hse,by omega,by omega,by omega,K9.pk [0,1,2] [0,1,2,3,4]⟩ ?_
   show act.length - AL (δ ((j + 1:Nat):Int)) < act.length - AL (δ (j:Int))
   simp only [AL]
   omega
  refine AB jH K6 [] fun w7 K7=>?_
  have fin:∀ (b:Bool) (E':Nat→Value) (wf:World),(d.kind == 3 || d.kind == 4)=b→Wk w wf [⟨w.heap.size,0,[.string ⟨⟨p0a⟩⟩,.slice (some ⟨gd,fd,none⟩) ds.length dc],27,true⟩,⟨w.heap.size + 1,0,(CU none 0 0 none 0 0 none none none),72,true⟩,⟨wb.heap.size,0,(CU (some ⟨gd,fd,none⟩) ds.length dc oA (Ad p0a ds day).1.length oc (some b1) (some b2) (some b3)),72,true⟩,⟨w4.heap.size,0,Bg d A1 c1' A2 c2,59,true⟩] [BS oA oc (Ad p0a ds day).1,GU.th b1 s.1,FX.th b2 s.2.1,Eg.th b3 (sx.map fun q=>(q.1,FI q.2)),BS (some ⟨ga,fa,none⟩) ac act] []→At Tryz.prog 23 (fun e w'=>(e=.returned (.tuple #[.agg ⟨CU none 0 0 none 0 0 none none none⟩,δ (CJ p0a ds day)])∧CJ p0a ds day≠0∧Below w.heap.size w w')∨∃ oA oc b1 b2 b3,∃ (sx:List (List UInt8×Gy)),CJ p0a ds day=0∧e=.returned (.tuple #[.agg ⟨CU (some ⟨gd,fd,none⟩) ds.length dc oA (Ad p0a ds day).1.length oc (some b1) (some b2) (some b3)⟩,δ 0])∧(sx.map fun q=>(q.1,q.2.1))=ps.2.2∧(∀ q∈sx,Cs w0 q.2.2.1 q.2.1∧q.2.1.length≤4294967296)∧Below w.heap.size w w'∧Aj w.heap.size w' [BS oA oc (Ad p0a ds day).1,GU.th b1 ps.1,FX.th b2 ps.2.1,Eg.th b3 (sx.map fun q=>(q.1,FI q.2))]) NQ (Fr 117 (BE E' [(2,.pointer (some ⟨w.heap.size,0,none⟩)),(4,.pointer (some ⟨w.heap.size + 1,0,none⟩)),(9,.pointer (some ⟨wb.heap.size,0,none⟩)),(11,δ (x:Int)),(12,.pointer (some ⟨w4.heap.size,0,none⟩)),(60,.slice (some ⟨ga,fa,none⟩) act.length ac),(61,δ (act.length:Int)),(62,δ (j:Int)),(97,.bool b)])) wf:=by
   intro b E' wf hb Kf
   rw [hb] at hP
   refine AG b (fun c3=>?_) (fun c3=>?_) <;> rw [c3] at hP
   ·replace hP:ps=Dr ds (act.drop (j + 1)) (cond (!(AH s.2.1 d.name).isSome) (s.1,(d.name,(x:Int)) :: s.2.1,s.2.2) s):=hP
    refine Ak Cv U5 Kf [(2,3),(3,1)] fun w7 K7=>?_
    refine DN (D6 FX (o:=CL U5) (b:=b2) (m:=s.2.1) (x:=.tmp 102) (y:=.tmp 104) (by kernel_rfl) rfl (by kernel_rfl) d.name (by kernel_rfl) hnl (K7.H.all (K7.ix 2) _ (K7.at 2 rfl))) ?_
    refine AB U4 K7 [] fun w8 K8=>?_
    refine AG (!(AH s.2.1 d.name).isSome) (fun c4=>?_) (fun c4=>?_) <;> rw [c4] at hP
    ·replace hP:ps=Dr ds (act.drop (j + 1)) (s.1,(d.name,(x:Int)) :: s.2.1,s.2.2):=hP
     refine Ak Eh jG K8 [(2,3),(3,1)] fun w6 K6=>?_
     refine GC FX K6.H (K6.ix 2) (K6.at 2 rfl) d.name (x:Int) hnl ⟨by omega,by omega⟩ (CL jG) (by kernel_rfl) (t:=69) (x:=.tmp 111) (y:=.tmp 113) (z:=.tmp 114) (by kernel_rfl) rfl (by kernel_rfl) (by kernel_rfl) (by kernel_rfl) (by omega) fun w7 Hn b7=>?_
     have K7:=K6.put 2 (by simp) b7 Hn
     refine AB (AZ JU) K7 [] fun w9 K9=>?_
     refine AU [(2,.pointer (some ⟨w.heap.size,0,none⟩)),(4,.pointer (some ⟨w.heap.size + 1,0,none⟩)),(9,.pointer (some ⟨wb.heap.size,0,none⟩)),(60,.slice (some ⟨ga,fa,none⟩) act.length ac),(61,δ (act.length:Int)),(62,δ (IntKind.i64.wrap ((j:Int) + 1)))] fun E9=>?_
     rw [Bl j (by omega)]
     refine again _ _ ⟨j + 1,(s.1,(d.name,(x:Int)) :: s.2.1,s.2.2),sx,E9,hlt,rfl,hP,hsx,hse,by show s.1.length≤_; omega,by show (_ :: s.2.1).length≤_; rw [List.length_cons]; omega,by show s.2.2.length≤_; omega,K9.pk [0,1,2] [0,1,2,3,4]⟩ ?_
     show act.length - AL (δ ((j + 1:Nat):Int)) < act.length - AL (δ (j:Int))
     simp only [AL]
     omega
    replace hP:ps=Dr ds (act.drop (j + 1)) s:=hP
    refine AB (AZ JU) K8 [] fun w9 K9=>?_
    refine AU [(2,.pointer (some ⟨w.heap.size,0,none⟩)),(4,.pointer (some ⟨w.heap.size + 1,0,none⟩)),(9,.pointer (some ⟨wb.heap.size,0,none⟩)),(60,.slice (some ⟨ga,fa,none⟩) act.length ac),(61,δ (act.length:Int)),(62,δ (IntKind.i64.wrap ((j:Int) + 1)))] fun E9=>?_
    rw [Bl j (by omega)]
    refine again _ _ ⟨j + 1,s,sx,E9,hlt,rfl,hP,hsx,hse,by omega,by omega,by omega,K9.pk [0,1,2] [0,1,2,3,4]⟩ ?_
    show act.length - AL (δ ((j + 1:Nat):Int)) < act.length - AL (δ (j:Int))
    simp only [AL]
    omega
   replace hP:ps=Dr ds (act.drop (j + 1)) s:=hP
   refine AB (AZ JU) Kf [] fun w9 K9=>?_
   refine AU [(2,.pointer (some ⟨w.heap.size,0,none⟩)),(4,.pointer (some ⟨w.heap.size + 1,0,none⟩)),(9,.pointer (some ⟨wb.heap.size,0,none⟩)),(60,.slice (some ⟨ga,fa,none⟩) act.length ac),(61,δ (act.length:Int)),(62,δ (IntKind.i64.wrap ((j:Int) + 1)))] fun E9=>?_
   rw [Bl j (by omega)]
   refine again _ _ ⟨j + 1,s,sx,E9,hlt,rfl,hP,hsx,hse,by omega,by omega,by omega,K9.pk [0,1,2] [0,1,2,3,4]⟩ ?_
   show act.length - AL (δ ((j + 1:Nat):Int)) < act.length - AL (δ (j:Int))
   simp only [AL]
   omega
  refine AG (d.kind == 3) (fun k3=>?_) (fun k3=>?_)
  ·refine AB NQ K7 [] fun w8 K8=>?_
   have hb:(d.kind == 3 || d.kind == 4)=(d.kind == 3):=by rw [k3]; rfl
   refine AU [(2,.pointer (some ⟨w.heap.size,0,none⟩)),(4,.pointer (some ⟨w.heap.size + 1,0,none⟩)),(9,.pointer (some ⟨wb.heap.size,0,none⟩)),(11,δ (x:Int)),(12,.pointer (some ⟨w4.heap.size,0,none⟩)),(60,.slice (some ⟨ga,fa,none⟩) act.length ac),(61,δ (act.length:Int)),(62,δ (j:Int)),(97,.bool (d.kind == 3))] fun E8=>?_
   exact fin _ E8 w8 hb K8
  refine AB NQ K7 [(3,0)] fun w8 K8=>?_
  have hb:(d.kind == 3 || d.kind == 4)=(d.kind == 4):=by rw [k3]; rfl
  refine AU [(2,.pointer (some ⟨w.heap.size,0,none⟩)),(4,.pointer (some ⟨w.heap.size + 1,0,none⟩)),(9,.pointer (some ⟨wb.heap.size,0,none⟩)),(11,δ (x:Int)),(12,.pointer (some ⟨w4.heap.size,0,none⟩)),(60,.slice (some ⟨ga,fa,none⟩) act.length ac),(61,δ (act.length:Int)),(62,δ (j:Int)),(97,.bool (d.kind == 4))] fun E8=>?_
  exact fin _ E8 w8 hb K8
 have hie:j=act.length:=by have:=of_decide_eq_false c1; omega
 rw [hie,List.drop_length,Dr] at hP
 subst hP
 refine Am xu K2 [(2,0),(1,0)] fun w3 K3=>?_
 refine AK K3 (1,0) (.tuple #[.agg ⟨CU dA ds.length dc oA (Ad p0a ds day).1.length oc (some b1) (some b2) (some b3)⟩,δ 0]) (.inr ⟨oA,oc,b1,b2,b3,sx,hE0,rfl,hsx,hse,K3.B,?_⟩)
 exact K3.own0 (L':=[BS oA oc (Ad p0a ds day).1,GU.th b1 ps.1,FX.th b2 ps.2.1,Eg.th b3 (sx.map fun q=>(q.1,FI q.2))]) [0,1,2,3] rfl (by decide)
end
end Go.Proofs.YtkjbdagicjbjjaaGreat

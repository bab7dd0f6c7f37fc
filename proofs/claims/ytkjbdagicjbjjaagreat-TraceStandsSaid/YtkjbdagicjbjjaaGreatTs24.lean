/- Contracts of functions, part 24. -/
import Derived.Test.YtkjbdagicjbjjaaGreatTs13
import Derived.Test.YtkjbdagicjbjjaaGreatTs23
set_option linter.all false
namespace Go.Proofs.YtkjbdagicjbjjaaGreat
noncomputable section
open Go.RowKit
set_option maxRecDepth 100000
set_option maxHeartbeats 2000000
abbrev BT (e:Int×Int):List Value:=[δ e.1,δ e.2]
abbrev OO:=Cl 2 BT
abbrev Dl:=List UInt8×Int×Int
abbrev GW (e:Dl):List Value:=[η (e.1),δ e.2.1,δ e.2.2]
abbrev wF:=Cl 3 GW
abbrev Dk:=List UInt8×List (Int×Int)
def iB (A:Option Addr) (n c:Nat):Prop:=n≤c∧∀ a,A=some a→a.spot=none
def EW (w:World) (A:Option Addr) (l:List Dk):Prop:=∃ rs,ET (fun e r=>∃ A c,r=[η (e.1),τ A e.2.length c]∧iB A e.2.length c∧OO w A e.2) l rs∧DH CN w 2 A rs
theorem PP {α:Type} {a:α→List Value→Prop}:∀ {l:List α} {rs:List (List Value)} {i:Nat} {e:α},ET a l rs→l[i]?=some e→∃ r,rs[i]?=some r∧a e r
 | [],_,_,_,_,h=>by simp at h
 | _ :: _,[],_,_,h,_=>h.elim
 | _ :: _,r :: _,0,_,h,hi=>⟨r,rfl,by simp at hi; exact hi ▸ h.1⟩
 | _ :: _,_ :: _,i + 1,_,h,hi=>by
  obtain ⟨r,b,h2⟩:=PP (i:=i) h.2 (by simpa using hi)
  exact ⟨r,by simpa using b,h2⟩
theorem NW {α:Type} {b a:α→List Value→Prop}:∀ {l:List α} {rs:List (List Value)},(∀ e r,e∈l→b e r→a e r)→ET b l rs→ET a l rs
 | [],[],_,_=>trivial
 | [],_ :: _,_,h=>h.elim
 | _ :: _,[],_,h=>h.elim
 | _ :: _,_ :: _,hm,h=>⟨hm _ _ (by simp) h.1,NW (fun e r he=>hm e r (by simp [he])) h.2⟩
theorem EW.below {w w':World} {A:Option Addr} {l:List Dk} (h:EW w A l) (B:Below (ε w) w w'):EW w' A l:=by
 obtain ⟨rs,a,h2⟩:=h
 exact ⟨rs,NW (fun e r _ ⟨A,c,hr,hc,he⟩=>⟨A,c,hr,hc,Cl.below he B⟩) a,DH.below h2 B⟩
theorem EW.all {w:World} {A:Option Addr} {l:List Dk} (h:EW w A l) (a:0 < l.length):∃ g off,A=some ⟨g,off,none⟩∧g < (ε w)∧∀ (i:Nat) e,l[i]?=some e→∃ b c,w.rangeAt g (off + i * 2) [η (e.1),τ b e.2.length c]∧iB b e.2.length c∧OO w b e.2:=by
 obtain ⟨rs,d,h2⟩:=h
 rcases h2 with h2 | ⟨g,off,rfl,_,hg,hc⟩
 ·rw [← Hf d,h2] at a
  exact absurd a (Nat.lt_irrefl _)
 refine ⟨g,off,rfl,hg,fun i e hi=>?_⟩
 obtain ⟨r,hr,b,c,rfl,hl,hx⟩:=PP d hi
 exact ⟨b,c,fun j u hu=>hc i _ hr j u hu,hl,hx⟩
def Af:List UInt8:=[109,101,116,97,108]
def Fm:List Df:=[⟨1,[104],false,0,1,0,0,[],BM,0,0,0⟩,⟨1,[103],false,0,0,0,0,[],BM,0,0,0⟩,⟨1,[102],true,0,0,0,0,[],BM,0,0,0⟩,⟨5,[103,114,111,115,115],false,1,0,0,0,[],BM,0,0,0⟩,⟨5,[116,105,109,101],false,0,1,0,0,[],BM,0,0,0⟩]
def Ng:List (List UInt8):=[[114,49],[114,50],[114,51],[114,52]]
def GR:List Ty:=[BU,Cb,DG,BC]
def RB:List (List UInt8):=[[97],[98]]
def KS:List (Int×Int):=[(1,100),(1,20),(1,1)]
def Gk (i:Nat) (frm:Int) (x:Ex):Df:=⟨3,Ng.getD i [],(GR.getD i BC).1,(GR.getD i BC).2.1,(GR.getD i BC).2.2.1,(GR.getD i BC).2.2.2,frm,[],x,0,0,0⟩
def Jl (i:Nat) (x:Ex) (mode:Int) (q:Int×Int):Df:=⟨4,RB.getD i [],false,0,0,0,20454,[],x,mode,q.1,q.2⟩
inductive I3 (H:Nat) (wl:Bool):Df→Prop
 | ins (d:Df) (hd:d∈Fm):I3 H wl d
 | sc (nm:List UInt8) (t:Ty) (frm:Int) (es:List (Int×Int×Int)) (h:(nm=[119]∧t=BU)∨(nm=[115]∧t=BC)) (hf:frm=20454∨frm=20459) (he:FR es):I3 H wl (Ci nm t frm es)
 | rule (i:Nat) (frm:Int) (x:Ex) (n:Int) (hi:i < 4) (hf:frm=20454∨frm=20459) (hn:n=(i:Int) + 1∨(wl=true∧n=5)) (hx:CT n H (GR.getD i BC) x):I3 H wl (Gk i frm x)
 | pay (i:Nat) (x:Ex) (mode:Int) (q:Int×Int) (hi:i < 2) (h0:0≤mode) (h6:mode≤6) (hq:q∈KS) (hx:CT (4 + (i:Int)) H Cb x):I3 H wl (Jl i x mode q)
abbrev EI:=Df×List Value
def Iv (x:EI) (r:List Value):Prop:=r=x.2∧r.length=21∧r.all (·.oneCell')=true
abbrev Fa (A:Option Addr) (c:Nat) (xs:List EI):Th:=Th.row 59 21 Iv A c xs
def GE (G:Nat→Prop) (xs:List EI):Th where
 F:=G
 P u:=∀ x∈xs,Ej G u x.1 x.2
 fr u u' h hs hk:=fun x hx=>(h x hx).keep hs fun g hg hl=>⟨hg,hk g hg hl⟩
theorem L5 {S:Nat→Prop} {u:World} {x:EI} (h:Ej S u x.1 x.2):Iv x x.2:=by
 refine ⟨rfl,h.len,?_⟩
 obtain ⟨_,_,_,_,_,_,_,_,_,_,_,_,_,_,hc⟩:=h.cells
 rw [hc]
 rfl
theorem L6 {S:Nat→Prop} {w:World} {d:Df} {b:Option Addr} {a:Nat} (c:d.ents=[]) (h2:DE S w d.body (AX d.body b a)):Ej S w d (Bg d none 0 b a):=⟨none,0,_,h2,.inl (by rw [c]; rfl),rfl⟩
theorem FC.but {b lo:Nat} {c:Df→Prop} (hb:b < lo):∀ v u a,CG b u a→FC lo c v u→FC lo c v a:=fun v u a he ⟨d,k,i,j,h,f,h2,e⟩=>⟨d,k,i,j,h,f,h2,e.keep he.size fun g hg hl=>⟨hg,he.block g hl (by omega)⟩⟩
theorem Xk {b:Nat} {ns:List Int} {lo:Nat} {a:Df→Prop} {u:World} (hl:lo≤(ε u)) {e:Ending} {w':World} (c:DfP b ns a u e w'):∃ v,e=.returned v∧Be b ns w'∧CG b u w'∧FC lo a v w':=by
 obtain ⟨v,rfl,⟨d,n,l,m,k,j,h2,i⟩,h,f⟩:=c
 exact ⟨_,rfl,h,f,d,n,l,m,k,j,h2,i.keep (Nat.le_refl _) fun g hg _=>⟨Nat.le_trans hl hg,rfl⟩⟩
def Ft (lo k:Nat) (Q:List Df→Prop) (v:Value) (u:World):Prop:=∃ (es:List EI) (g:Nat),v=χ g k k∧es.length=k∧lo≤g∧A7.good u (ι g ((es.map (·.2)).flatten) 59)∧(∀ x∈es,Ej (fun g=>lo≤g) u x.1 x.2)∧Q (es.map (·.1))
theorem Ft.but {b lo k:Nat} {Q:List Df→Prop} (hb:b < lo):∀ v u a,CG b u a→Ft lo k Q v u→Ft lo k Q v a:=fun v u a he ⟨es,g,h,h2,f,c,e,d⟩=>⟨es,g,h,h2,f,GY c he.size (he.block g c.1 (by show g≠b; omega)),fun x hx=>(e x hx).keep he.size fun g hg hl=>⟨hg,he.block g hl (by omega)⟩,d⟩
theorem oE {S b:Nat→Prop} {u:World} {d:Df} {a:List Value} (h:Ej S u d a∨Ej b u d a):Ej (fun k=>S k∨b k) u d a:=by
 rcases h with h | h
 ·exact h.keep (Nat.le_refl _) fun g hg _=>⟨.inl hg,rfl⟩
 exact h.keep (Nat.le_refl _) fun g hg _=>⟨.inr hg,rfl⟩
theorem Ri {Q:Exit→Act→World→Prop} {ops:Array Oper} {n fuel:Nat} {E:Nat→Value} {d:Array Bool} {w0 w f u:World} {M:List A7} {b:Nat} {ns:List Int} {A:Option Addr} {c:Nat} {xs o:List EI} {G:Nat→Prop} (K:Wk w0 f M [BF w0 b ns,Bh b w,Fa A c xs,GE G o] []) (hu:Wk w0 u M [BF w0 b ns,Bh b w,Fa A c xs,GE G o] []) (es:List EI) (g:Nat) (hg:A7.good u (ι g ((es.map (·.2)).flatten) 59)) (e:∀ x∈es,Ej (fun k=>f.heap.size≤k) u x.1 x.2) (hl:xs.length + es.length≤1000) (i s x:Nat)
  (q:∀ y t w',Wk w0 w' M [BF w0 b ns,Bh b w,Fa y t (xs++es),GE (fun k=>G k∨(ε f≤k∧k < (ε u))) (o++es)] []→wpAny Tryz.prog .any ops Q fuel (d.setIfInBounds i true) (Fr n (Aw E (ops.getD i default).dst (τ y (xs++es).length t))) w')
  (hs:A8 n E (.tmp s)=τ A xs.length c) (hx:A8 n E (.tmp x)=χ g es.length es.length) (ho:(ops.getD i default).op=.call { callee:=.builtin .append,args:=#[.tmp s,.tmp x],argTypes:=#[25,25] })
  (hc:(Region.ready .any ops d,Nat.blt i ops.size,(ops.getD i default).guard)=([i],true,none)):wpAny Tryz.prog .any ops Q (fuel + 1) d (Fr n E) u:=by
 have K2:=K.freshT hu (GE (fun k=>f.heap.size≤k∧k < (ε u)) es) (fun x hx=>(e x hx).keep (Nat.le_refl _) fun g hg hl=>⟨⟨hg,hl⟩,rfl⟩) (fun _ q=>q)
 have v:Wk w0 u M [BF w0 b ns,Bh b w,Fa A c xs,GE (fun k=>G k∨(ε f≤k∧k < (ε u))) (o++es)] []:=K2.merge 3 (m:=GE (fun k=>G k∨(ε f≤k∧k < (ε u))) (o++es)) rfl (fun x hx=>by
  rcases List.mem_append.1 hx with hx | hx
  ·exact oE (.inl ((hu.H.all (hu.ix 3) _ (hu.at 3 rfl)) x hx))
  exact oE (.inr ((e x hx).keep (Nat.le_refl _) fun g hg hl=>⟨⟨hg,hl⟩,rfl⟩))) (fun k q=>q)
 have p:∀ l:List EI,(∀ x∈l,Ej (fun k=>f.heap.size≤k) u x.1 x.2)→ET Iv l (l.map (·.2)):=by
  intro l
  induction l with
  | nil=>intro _; trivial
  | cons a l ih=>intro h; exact ⟨L5 (h a (by simp)),ih fun x hx=>h x (by simp [hx])⟩
 have j:∀ r∈es.map (·.2),r.length=21:=fun r hr=>by
  obtain ⟨x,hx,rfl⟩:=List.mem_map.1 hr
  exact (e x hx).len
 obtain ⟨y,t,z,hr,Hn,b6⟩:=Og (ρ:=A8 n E) v.H (v.ix 2) (v.at 2 rfl) es (es.map (·.2)) (p es e) ⟨g,0,none⟩ es.length (Jv (DJ j hg) j) (ops.getD i default) (.tmp s) (.tmp x) 25 ho (by kernel_rfl) (by kernel_rfl) (by decide) hs hx j (fun r hr=>by obtain ⟨x,hx,rfl⟩:=List.mem_map.1 hr; exact (L5 (e x hx)).2.2) (by omega)
 exact SV i hr (q y t z (v.put 2 (by simp) b6 Hn)) hc
attribute [local irreducible] BD BP AC AD AF Ar AZ AM Aw Bk C6 BV Fo EE C5 BO At Fr
noncomputable def aL:Code:=Tryz.f6.body.getD .skip
def tp:=ν [.code aL]
def tn:=Ω tp
def tk:=Ω tn
def tj:=Ω tk
def UA:=Ω tj
def ti:=AI UA
def da:=Ω ti
def dZ:=Ξ da
def MP:=Ψ da
def T8:=ν (AC (AC (AC (AC MP))))
def WE:=ν (Ar T8)
def lG:=Ξ WE
def WD:=Ω lG
def KQ:=Ψ WD
def lF:=ν (Ar KQ)
def lE:=Ω lF
def WC:=Ξ lE
def Qm:=Ψ WE
def lD:=ν (Ar Qm)
def WB:=Ω lD
def WA:=Ξ WB
def V9:=Ψ WB
def V8:=Ω V9
def V7:=ν (Ar V8)
def Ql:=Ξ V7
def JV:=AI Ql
def y2:=Ψ V7
abbrev FE (w:World) (A:Option Addr) (n c:Nat):List A7:=[ι (ε w) [η [],τ none 0 0] 27,ι (ε w + 1) [η Af,τ A n c] 27]
abbrev Jr (w:World) (A:Option Addr) (n c gN gT:Nat):List A7:=[ι (ε w) [η [],τ none 0 0] 27,ι (ε w + 1) [η Af,τ A n c] 27,ι gN [η [114,49],η [114,50],η [114,51],η [114,52]] 9,ι gT ([Ax BU,Ax Cb,Ax DG,Ax BC].flatten) 56]
abbrev EA (w0:World) (b:Nat) (ns:List Int) (w:World) (A:Option Addr) (c:Nat) (xs:List EI) (G:Nat→Prop) (ys:List EI):List Th:=[BF w0 b ns,Bh b w,Fa A c xs,GE G ys]
abbrev MC (b H:Nat) (wl:Bool) (w:World):List (Nat×Value):=[(0,ζ b),(1,δ (H:Int)),(2,ξ wl),(6,ζ (ε w)),(7,ζ (ε w + 1))]
abbrev UM (b H:Nat) (wl:Bool) (w:World) (gN gT:Nat) (i:Int):List (Nat×Value):=[(0,ζ b),(1,δ (H:Int)),(2,ξ wl),(6,ζ (ε w)),(7,ζ (ε w + 1)),(8,χ gN 4 4),(9,χ gT 4 4),(10,δ i)]
abbrev IP (b H:Nat) (wl:Bool) (w:World) (gN gT:Nat) (i n v:Int):List (Nat×Value):=[(0,ζ b),(1,δ (H:Int)),(2,ξ wl),(6,ζ (ε w)),(7,ζ (ε w + 1)),(8,χ gN 4 4),(9,χ gT 4 4),(10,δ i),(11,δ n),(12,δ v)]
abbrev KB (b H:Nat) (w:World) (i:Int):List (Nat×Value):=[(0,ζ b),(1,δ (H:Int)),(6,ζ (ε w)),(7,ζ (ε w + 1)),(13,δ i)]
abbrev ABp (b:Nat) (w:World):List (Nat×Value):=[(0,ζ b),(6,ζ (ε w)),(7,ζ (ε w + 1))]
abbrev Gq (b:Nat) (w:World) (i:Int):List (Nat×Value):=[(0,ζ b),(6,ζ (ε w)),(7,ζ (ε w + 1)),(14,δ i)]
section
variable {R:Ending→World→Prop} {b:Nat} {ns:List Int} {H:Nat} {wl:Bool} {w w0 w1:World} {A:Option Addr} {c:Nat} {xs ys:List EI} {G:Nat→Prop} {E:Nat→Value}
theorem AEq (h0:(ε w0)=b) (hl:xs.length≤100) (K:Wk w0 w1 (FE w A xs.length c) (EA w0 b ns w A c xs G ys) []) (hk:∀ t s (es:List EI) (G':Nat→Prop) (E:Nat→Value) w',(fun ds=>∃ a f,ds=[Ci [119] BU 20454 a,Ci [115] BC 20454 f]∧FR a∧FR f) (es.map (·.1))→es.length=2→Wk w0 w' (FE w t (xs++es).length s) (EA w0 b ns w t s (xs++es) G' (ys++es)) []→At Tryz.prog 6 R (AM UA) (Fr 168 (BE E (MC b H wl w))) w'):At Tryz.prog 6 R UA (Fr 168 (BE E (MC b H wl w))) w1:=by
 have hb:b < (ε w1):=(K.tapeOk h0 0 rfl).lt
 refine Ek K h0 0 rfl [0,1,2,3,4,5,6,7,8] (FE w A xs.length c) [(1,1,1)] [(3,fun v _=>v=ψ (Ax BU)),(4,FC (ε w1) (fun d=>∃ es,d=Ci [119] BU 20454 es∧FR es)),(6,fun v _=>v=ψ (Ax BC)),(7,FC (ε w1) (fun d=>∃ es,d=Ci [115] BC 20454 es∧FR es)),(8,Ft (ε w1) 2 (fun ds=>∃ a f,ds=[Ci [119] BU 20454 a,Ci [115] BC 20454 f]∧FR a∧FR f))] 3 (fun u hu=>hu.G) (fun p q=>?_) (fun p q X u hu i hf=>?_) fun X u hu i hf=>?_
 ·simp only [List.mem_cons,List.not_mem_nil,or_false] at q
  rcases q with rfl | rfl | rfl | rfl | rfl
  ·exact fun _ _ _ _ h=>h
  ·exact FC.but hb
  ·exact fun _ _ _ _ h=>h
  ·exact FC.but hb
  exact Ft.but (k:=2) (Q:=fun ds=>∃ a f,ds=[Ci [119] BU 20454 a,Ci [115] BC 20454 f]∧FR a∧FR f) hb
 ·have r:=hu.tapeOk h0 0 rfl
  simp only [List.mem_cons,List.not_mem_nil,or_false] at q
  rcases q with rfl | rfl | rfl | rfl | rfl
  ·exact Bn (xs:=[]) (args:=[]) (OA r (Gf u)) rfl
  ·refine Bn (g:=20) (xs:=[.tmp 31,.const (η [119]),.tmp 32,.const (δ 20454)]) (args:=[ζ b,η [119],X 3,δ 20454]) ?_ rfl
   rw [show X 3=ψ (Ax BU) from hf 3 (by kernel_rfl) rfl]
   exact (Wn b ns [119] BU 20454 u r).mono fun e w' hh=>Xk i.size hh
  ·exact Bn (xs:=[]) (args:=[]) (OA r (Hb u)) rfl
  ·refine Bn (g:=20) (xs:=[.tmp 34,.const (η [115]),.tmp 35,.const (δ 20454)]) (args:=[ζ b,η [115],X 6,δ 20454]) ?_ rfl
   rw [show X 6=ψ (Ax BC) from hf 6 (by kernel_rfl) rfl]
   exact (Wn b ns [115] BC 20454 u r).mono fun e w' hh=>Xk i.size hh
  obtain ⟨d,A1,c1,A2,c2,a,⟨s1,rfl,q1⟩,d1⟩:FC (ε w1) (fun d=>∃ es,d=Ci [119] BU 20454 es∧FR es) (X 4) u:=hf 4 (by kernel_rfl) rfl
  obtain ⟨d',n,l,m,j,b0,⟨y,rfl,q2⟩,c0⟩:FC (ε w1) (fun d=>∃ es,d=Ci [115] BC 20454 es∧FR es) (X 7) u:=hf 7 (by kernel_rfl) rfl
  exact AN.over [(33,ψ (Bg (Ci [119] BU 20454 s1) A1 c1 A2 c2)),(36,ψ (Bg (Ci [115] BC 20454 y) n l m j))] ⟨Eq.trans (b:=X 4) (by kernel_rfl) a,Eq.trans (b:=X 7) (by kernel_rfl) b0,trivial⟩ (Gl (fun z=>χ z 2 2) (Bg (Ci [119] BU 20454 s1) A1 c1 A2 c2++Bg (Ci [115] BC 20454 y) n l m j) 59 (fun w' o hg=>⟨r.below o,.of_below o,[(_,Bg (Ci [119] BU 20454 s1) A1 c1 A2 c2),(_,Bg (Ci [115] BC 20454 y) n l m j)],ε u,rfl,rfl,i.size,by simpa using hg,fun x hx=>by
    rcases List.mem_cons.1 hx with rfl | hx
    ·exact d1.keep o.size fun g hg hl=>⟨hg,o.block g hl⟩
    rw [List.mem_singleton.1 hx]
    exact c0.keep o.size fun g hg hl=>⟨hg,o.block g hl⟩,s1,y,rfl,q1,q2⟩) (by intro z; kernel_rfl))
 obtain ⟨es,g,a,f,_,hg,a0,hq⟩:Ft (ε w1) 2 (fun ds=>∃ a f,ds=[Ci [119] BU 20454 a,Ci [115] BC 20454 f]∧FR a∧FR f) (X 8) u:=hf 8 (by simp) rfl
 refine Bs ((MC b H wl w)++[(30,τ A xs.length c),(37,X 8)]) fun E2=>?_
 rw [a]
 refine Ri K hu es g hg a0 (by omega) 9 30 37 (fun t s w6 K6=>?_) (by kernel_rfl) (by rw [f]; kernel_rfl) (by kernel_rfl) (by kernel_rfl)
 refine Do K6 [(10,0,0),(11,1,1)] (fun _=>(FE w t (xs++es).length s)) fun z w7 K7=>?_
 refine AU (MC b H wl w) fun E7=>?_
 exact hk t s es _ E7 w7 hq f K7
theorem AEp (o:(ε w0)=b) (hl:xs.length≤100) (K:Wk w0 w1 (FE w A xs.length c) (EA w0 b ns w A c xs G ys) []) (hk:∀ j i (es:List EI) (G':Nat→Prop) (E:Nat→Value) w',(fun ds=>∃ d,ds=[d]∧(fun d=>∃ es,d=Ci [119] BU 20459 es∧FR es) d) (es.map (·.1))→es.length=1→Wk w0 w' (FE w j (xs++es).length i) (EA w0 b ns w j i (xs++es) G' (ys++es)) []→At Tryz.prog 6 R (AM dZ) (Fr 168 (BE E (MC b H wl w))) w'):At Tryz.prog 6 R dZ (Fr 168 (BE E (MC b H wl w))) w1:=by
 have hb:b < (ε w1):=(K.tapeOk o 0 rfl).lt
 refine Ek K o 0 rfl [0,1,2,3,4,5] (FE w A xs.length c) [(1,1,1)] [(3,fun v _=>v=ψ (Ax BU)),(4,FC (ε w1) (fun d=>∃ es,d=Ci [119] BU 20459 es∧FR es)),(5,Ft (ε w1) 1 (fun ds=>∃ d,ds=[d]∧(fun d=>∃ es,d=Ci [119] BU 20459 es∧FR es) d))] 3 (fun u hu=>hu.G) (fun p f=>?_) (fun p f X u hu a hf=>?_) fun X u hu a hf=>?_
 ·simp only [List.mem_cons,List.not_mem_nil,or_false] at f
  rcases f with rfl | rfl | rfl
  ·exact fun _ _ _ _ h=>h
  ·exact FC.but hb
  exact Ft.but (k:=1) (Q:=fun ds=>∃ d,ds=[d]∧(fun d=>∃ es,d=Ci [119] BU 20459 es∧FR es) d) hb
 ·have n:=hu.tapeOk o 0 rfl
  simp only [List.mem_cons,List.not_mem_nil,or_false] at f
  rcases f with rfl | rfl | rfl
  ·exact Bn (xs:=[]) (args:=[]) (OA n (Gf u)) rfl
  ·refine Bn (g:=20) (xs:=[.tmp 45,.const (η [119]),.tmp 46,.const (δ 20459)]) (args:=[ζ b,η [119],X 3,δ 20459]) ?_ rfl
   rw [show X 3=ψ (Ax BU) from hf 3 (by kernel_rfl) rfl]
   exact (Wn b ns [119] BU 20459 u n).mono fun e w' hh=>Xk a.size hh
  obtain ⟨d,y,s,t,r,q,p1,d1⟩:FC (ε w1) (fun d=>∃ es,d=Ci [119] BU 20459 es∧FR es) (X 4) u:=hf 4 (by kernel_rfl) rfl
  exact AN.over [(47,ψ (Bg d y s t r))] ⟨Eq.trans (b:=X 4) (by kernel_rfl) q,trivial⟩ (Gl (fun z=>χ z 1 1) (Bg d y s t r) 59 (fun w' l hg=>⟨n.below l,.of_below l,[(d,Bg d y s t r)],ε u,rfl,rfl,a.size,by simpa using hg,fun x hx=>by rw [List.mem_singleton.1 hx]; exact d1.keep l.size fun g hg hl=>⟨hg,l.block g hl⟩,d,rfl,p1⟩) (by intro z; kernel_rfl))
 obtain ⟨es,g,q,e2,_,hg,m,hq⟩:Ft (ε w1) 1 (fun ds=>∃ d,ds=[d]∧(fun d=>∃ es,d=Ci [119] BU 20459 es∧FR es) d) (X 5) u:=hf 5 (by simp) rfl
 refine Bs ((MC b H wl w)++[(44,τ A xs.length c),(48,X 5)]) fun E2=>?_
 rw [q]
 refine Ri K hu es g hg m (by omega) 6 44 48 (fun j i w6 K6=>?_) (by kernel_rfl) (by rw [e2]; kernel_rfl) (by kernel_rfl) (by kernel_rfl)
 refine Do K6 [(7,0,0),(8,1,1)] (fun _=>(FE w j (xs++es).length i)) fun z w7 K7=>?_
 refine AU (MC b H wl w) fun E7=>?_
 exact hk j i es _ E7 w7 hq e2 K7
theorem ABH:∀ (i:Nat),i < 4→([η [114,49],η [114,50],η [114,51],η [114,52]]:List Value)[i]?=some (η (Ng.getD i []))
 | 0,_ | 1,_ | 2,_ | 3,_=>rfl
 | _ + 4,h=>absurd h (by omega)
theorem ABI:∀ (i:Nat),i < 2→([η [97],η [98]]:List Value)[i]?=some (η (RB.getD i []))
 | 0,_ | 1,_=>rfl
 | _ + 2,h=>absurd h (by omega)
theorem UY:∀ (i:Nat),i < 4→GR[i]?=some (GR.getD i BC)∧GR.getD i BC∈EG
 | 0,_ | 1,_ | 2,_ | 3,_=>⟨rfl,by decide⟩
 | _ + 4,h=>absurd h (by omega)
theorem Oa {b:Nat} {ns:List Int} {n:Int} {H:Nat} (d:0 < H) (c:H≤1000) {t:Ty} (e:t∈EG) {u:World} (a:Be b ns u):Calls Tryz.prog 16 ([ζ b,ψ (Ax t),δ (H:Int),δ n]:List Value).toArray u (LD b ns n H t u):=by
 cases H with
 | zero=>exact absurd d (by omega)
 | succ h=>exact vS b ns n h t e (by omega) u a
theorem ABm {i v:Nat} {n:Int} {f a:Nat} (hi:i < 4) (hH:0 < H) (b0:H≤1000) (h0:(ε w0)=b) (hl:xs.length≤100) (K:Wk w0 w1 (Jr w A xs.length c f a) (EA w0 b ns w A c xs G ys) []) (hk:∀ A' y (es:List EI) (G':Nat→Prop) (E:Nat→Value) w',(fun ds=>∃ d,ds=[d]∧(fun d=>∃ x,d=Gk i (IntKind.i64.wrap (20454 + IntKind.i64.wrap (5 * (v:Int)))) x∧CT n H (GR.getD i BC) x) d) (es.map (·.1))→es.length=1→Wk w0 w' (Jr w A' (xs++es).length y f a) (EA w0 b ns w A' y (xs++es) G' (ys++es)) []→At Tryz.prog 6 R (AM WC) (Fr 168 (BE E (IP b H wl w f a (i:Int) n (v:Int)))) w'):At Tryz.prog 6 R WC (Fr 168 (BE E (IP b H wl w f a (i:Int) n (v:Int)))) w1:=by
 have hb:b < (ε w1):=(K.tapeOk h0 0 rfl).lt
 refine Ek K h0 0 rfl [0,1,2,3,4,5,6,7,8,9,10,11,12,13,14,15,16,17,18,19,20,21,22] (Jr w A xs.length c f a) [(1,1,1)] [(4,fun v _=>v=.pointer (some ⟨f,0 + i * 1,none⟩)),(5,fun v _=>v=η (Ng.getD i [])),(8,fun v _=>v=.pointer (some ⟨a,0 + i * 4,none⟩)),(9,fun v _=>v=ψ (Ax (GR.getD i BC))),(16,fun v _=>v=.pointer (some ⟨a,0 + i * 4,none⟩)),(17,fun v _=>v=ψ (Ax (GR.getD i BC))),(20,CA (ε w1) n H (GR.getD i BC)),(21,FC (ε w1) (fun d=>∃ x,d=Gk i (IntKind.i64.wrap (20454 + IntKind.i64.wrap (5 * (v:Int)))) x∧CT n H (GR.getD i BC) x)),(22,Ft (ε w1) 1 (fun ds=>∃ d,ds=[d]∧(fun d=>∃ x,d=Gk i (IntKind.i64.wrap (20454 + IntKind.i64.wrap (5 * (v:Int)))) x∧CT n H (GR.getD i BC) x) d))] 3 (fun u hu=>hu.G) (fun p s=>?_) (fun p s X u hu l hf=>?_) fun X u hu l hf=>?_
 ·simp only [List.mem_cons,List.not_mem_nil,or_false] at s
  rcases s with rfl | rfl | rfl | rfl | rfl | rfl | rfl | rfl | rfl
  ·exact fun _ _ _ _ h=>h
  ·exact fun _ _ _ _ h=>h
  ·exact fun _ _ _ _ h=>h
  ·exact fun _ _ _ _ h=>h
  ·exact fun _ _ _ _ h=>h
  ·exact fun _ _ _ _ h=>h
  ·exact CA.but hb
  ·exact FC.but hb
  exact Ft.but (k:=1) (Q:=fun ds=>∃ d,ds=[d]∧(fun d=>∃ x,d=Gk i (IntKind.i64.wrap (20454 + IntKind.i64.wrap (5 * (v:Int)))) x∧CT n H (GR.getD i BC) x) d) hb
 ·have j:=hu.tapeOk h0 0 rfl
  simp only [List.mem_cons,List.not_mem_nil,or_false] at s
  rcases s with rfl | rfl | rfl | rfl | rfl | rfl | rfl | rfl | rfl
  ·exact AN.value (CE (g:=f) (off:=0) (sz:=1) (k:=i) (len:=4) (cap:=4) 65 (.tmp 78) (.tmp 79) hi Tryz.underlying65) ⟨j,CG.refl b u,rfl⟩
  ·refine AN.loadOne 9 (.tmp 80) (by kernel_rfl) (Eq.trans (b:=X 4) (by kernel_rfl) (hf 4 (by kernel_rfl) rfl)) (v:=η (Ng.getD i [])) ?_ (Tryz.isAgg9 u) ⟨j,CG.refl b u,rfl⟩
   have:=Pm (hu.ent 2 rfl) i _ (ABH i hi)
   simpa using this
  ·exact AN.value (CE (g:=a) (off:=0) (sz:=4) (k:=i) (len:=4) (cap:=4) 66 (.tmp 82) (.tmp 83) hi Tryz.underlying66) ⟨j,CG.refl b u,rfl⟩
  ·obtain ⟨g',off,h1,_,h3⟩:=Cl.all (show Cl 4 (fun q:Ty=>Ax q) u (θ a) GR from DJ (fun r hr=>by obtain ⟨e,_,rfl⟩:=List.mem_map.1 hr; rfl) (hu.ent 3 rfl)) (by decide)
   obtain ⟨rfl,rfl⟩:a=g'∧0=off:=by simpa using h1
   exact AN.loadMid 56 (.tmp 84) (by kernel_rfl) (Eq.trans (b:=X 8) (by kernel_rfl) (hf 8 (by kernel_rfl) rfl)) (Ax (GR.getD i BC)) (h3 i _ (UY i hi).1) (by kernel_rfl) (by kernel_rfl) ⟨j,CG.refl b u,rfl⟩
  ·exact AN.value (CE (g:=a) (off:=0) (sz:=4) (k:=i) (len:=4) (cap:=4) 66 (.tmp 90) (.tmp 91) hi Tryz.underlying66) ⟨j,CG.refl b u,rfl⟩
  ·obtain ⟨g',off,h1,_,h3⟩:=Cl.all (show Cl 4 (fun q:Ty=>Ax q) u (θ a) GR from DJ (fun r hr=>by obtain ⟨e,_,rfl⟩:=List.mem_map.1 hr; rfl) (hu.ent 3 rfl)) (by decide)
   obtain ⟨rfl,rfl⟩:a=g'∧0=off:=by simpa using h1
   exact AN.loadMid 56 (.tmp 92) (by kernel_rfl) (Eq.trans (b:=X 16) (by kernel_rfl) (hf 16 (by kernel_rfl) rfl)) (Ax (GR.getD i BC)) (h3 i _ (UY i hi).1) (by kernel_rfl) (by kernel_rfl) ⟨j,CG.refl b u,rfl⟩
  ·refine Bn (g:=16) (xs:=[.tmp 89,.tmp 93,.tmp 94,.tmp 95]) (args:=[ζ b,X 17,δ (H:Int),δ n]) ?_ rfl
   rw [show X 17=ψ (Ax (GR.getD i BC)) from hf 17 (by kernel_rfl) rfl]
   exact (Oa hH b0 (UY i hi).2 j).mono fun e w' hh=>Ds l.size hh
  ·obtain ⟨x,o,m,t,g1,t1⟩:CA (ε w1) n H (GR.getD i BC) (X 20) u:=hf 20 (by kernel_rfl) rfl
   exact AN.over [(81,η (Ng.getD i [])),(85,ψ (Ax (GR.getD i BC))),(96,ψ (AX x o m))] ⟨Eq.trans (b:=X 5) (by kernel_rfl) (hf 5 (by kernel_rfl) rfl),Eq.trans (b:=X 9) (by kernel_rfl) (hf 9 (by kernel_rfl) rfl),Eq.trans (b:=X 20) (by kernel_rfl) t,trivial⟩ (AN.reads ⟨0,[],(0,0),[]⟩ (fun e he=>by cases he) (ψ (Bg (Gk i (IntKind.i64.wrap (20454 + IntKind.i64.wrap (5 * (v:Int)))) x) none 0 o m)) ⟨j,CG.refl b u,Gk i (IntKind.i64.wrap (20454 + IntKind.i64.wrap (5 * (v:Int)))) x,none,0,o,m,rfl,⟨x,rfl,g1⟩,L6 rfl t1⟩)
  obtain ⟨d,o,m,A2,c2,t,p1,d1⟩:FC (ε w1) (fun d=>∃ x,d=Gk i (IntKind.i64.wrap (20454 + IntKind.i64.wrap (5 * (v:Int)))) x∧CT n H (GR.getD i BC) x) (X 21) u:=hf 21 (by kernel_rfl) rfl
  exact AN.over [(97,ψ (Bg d o m A2 c2))] ⟨Eq.trans (b:=X 21) (by kernel_rfl) t,trivial⟩ (Gl (fun z=>χ z 1 1) (Bg d o m A2 c2) 59 (fun w' hB hg=>⟨j.below hB,.of_below hB,[(d,Bg d o m A2 c2)],ε u,rfl,rfl,l.size,by simpa using hg,fun x hx=>by rw [List.mem_singleton.1 hx]; exact d1.keep hB.size fun g hg hl=>⟨hg,hB.block g hl⟩,d,rfl,p1⟩) (by intro z; kernel_rfl))
 obtain ⟨es,g,t,e2,_,hg,a0,hq⟩:Ft (ε w1) 1 (fun ds=>∃ d,ds=[d]∧(fun d=>∃ x,d=Gk i (IntKind.i64.wrap (20454 + IntKind.i64.wrap (5 * (v:Int)))) x∧CT n H (GR.getD i BC) x) d) (X 22) u:=hf 22 (by simp) rfl
 refine Bs ((IP b H wl w f a (i:Int) n (v:Int))++[(77,τ A xs.length c),(98,X 22)]) fun E2=>?_
 rw [t]
 refine Ri K hu es g hg a0 (by omega) 23 77 98 (fun A' y w6 K6=>?_) (by kernel_rfl) (by rw [e2]; kernel_rfl) (by kernel_rfl) (by kernel_rfl)
 refine Do K6 [(24,0,0),(25,1,1)] (fun _=>(Jr w A' (xs++es).length y f a)) fun z w7 K7=>?_
 refine AU (IP b H wl w f a (i:Int) n (v:Int)) fun E7=>?_
 exact hk A' y es _ E7 w7 hq e2 K7
theorem ABl {i:Nat} {gN gT:Nat} (hi:i < 2) (hH:0 < H) (hH2:H≤1000) (h0:w0.heap.size=b) (hl:xs.length≤100) (K:Wk w0 w1 (Jr w A xs.length c gN gT) (EA w0 b ns w A c xs G ys) []) (hk:∀ A' c' (es:List EI) (G':Nat→Prop) (E:Nat→Value) w',(fun ds=>∃ d,ds=[d]∧(fun d=>∃ x mode q,d=Jl i x mode q∧0≤mode∧mode≤6∧q∈KS∧CT (IntKind.i64.wrap (4 + (i:Int))) H Cb x) d) (es.map (·.1))→es.length=1→Wk w0 w' (Jr w A' (xs++es).length c' gN gT) (EA w0 b ns w A' c' (xs++es) G' (ys++es)) []→At Tryz.prog 6 R (AM WA) (Fr 168 (BE E (KB b H w (i:Int)))) w'):At Tryz.prog 6 R WA (Fr 168 (BE E (KB b H w (i:Int)))) w1:=by
 have hb:b < w1.heap.size:=(K.tapeOk h0 0 rfl).lt
 refine Ek K h0 0 rfl [0,1,2,3,4,5,6,7,8,9,10,11,12,13,14,15,16,17,18,19,20,21,22,23] (Jr w A xs.length c gN gT) [(1,1,1)] [(2,Fb b [.string ⟨⟨[97]⟩⟩,.string ⟨⟨[98]⟩⟩] 9 2),(4,fun v u=>∃ g,v=.pointer (some ⟨g,0 + i * 1,none⟩)∧g≠b∧A7.good u ⟨g,0,[.string ⟨⟨[97]⟩⟩,.string ⟨⟨[98]⟩⟩],9,true⟩),(5,fun v _=>v=.string ⟨⟨RB.getD i []⟩⟩),(7,fun v _=>v=.agg ⟨Ax Cb⟩),(11,CA w1.heap.size (IntKind.i64.wrap (4 + (i:Int))) H Cb),(13,Io 7),(17,Fb b [δ 1,δ 100,δ 1,δ 20,δ 1,δ 1] 41 3),(19,Io 3),(20,fun v u=>∃ g k,v=.pointer (some ⟨g,0 + k * 2,none⟩)∧k < 3∧g≠b∧A7.good u ⟨g,0,[δ 1,δ 100,δ 1,δ 20,δ 1,δ 1],41,true⟩),(21,fun v _=>∃ q∈KS,v=.agg ⟨[δ q.1,δ q.2]⟩),(22,FC w1.heap.size (fun d=>∃ x mode q,d=Jl i x mode q∧0≤mode∧mode≤6∧q∈KS∧CT (IntKind.i64.wrap (4 + (i:Int))) H Cb x)),(23,Ft w1.heap.size 1 (fun ds=>∃ d,ds=[d]∧(fun d=>∃ x mode q,d=Jl i x mode q∧0≤mode∧mode≤6∧q∈KS∧CT (IntKind.i64.wrap (4 + (i:Int))) H Cb x) d))] 3 (fun u hu=>hu.G) (fun p hp=>?_) (fun p hp X u hu hbu hf=>?_) fun X u hu hbu hf=>?_
 ·simp only [List.mem_cons,List.not_mem_nil,or_false] at hp
  rcases hp with rfl | rfl | rfl | rfl | rfl | rfl | rfl | rfl | rfl | rfl | rfl | rfl
  ·exact Fb.but
  ·exact fun v u u' he ⟨g,h1,h2,h3⟩=>⟨g,h1,h2,GY h3 he.size (he.block g h3.1 h2)⟩
  ·exact fun _ _ _ _ h=>h
  ·exact fun _ _ _ _ h=>h
  ·exact CA.but hb
  ·exact fun _ _ _ _ h=>h
  ·exact Fb.but
  ·exact fun _ _ _ _ h=>h
  ·exact fun v u u' he ⟨g,k,a1,a2,a3,a4⟩=>⟨g,k,a1,a2,a3,GY a4 he.size (he.block g a4.1 a3)⟩
  ·exact fun _ _ _ _ h=>h
  ·exact FC.but hb
  exact Ft.but (k:=1) (Q:=fun ds=>∃ d,ds=[d]∧(fun d=>∃ x mode q,d=Jl i x mode q∧0≤mode∧mode≤6∧q∈KS∧CT (IntKind.i64.wrap (4 + (i:Int))) H Cb x) d) hb
 ·have hT:=hu.tapeOk h0 0 rfl
  simp only [List.mem_cons,List.not_mem_nil,or_false] at hp
  rcases hp with rfl | rfl | rfl | rfl | rfl | rfl | rfl | rfl | rfl | rfl | rfl | rfl
  ·exact Gl (fun z=>.slice (some ⟨z,0,none⟩) 2 2) [.string ⟨⟨[97]⟩⟩,.string ⟨⟨[98]⟩⟩] 9 (fun w' hB hg=>⟨hT.below hB,.of_below hB,u.heap.size,rfl,Nat.ne_of_gt hT.lt,hg⟩) (by intro z; kernel_rfl)
  ·obtain ⟨g,e1,e2,e3⟩:Fb b [.string ⟨⟨[97]⟩⟩,.string ⟨⟨[98]⟩⟩] 9 2 (X 2) u:=hf 2 (by kernel_rfl) rfl
   exact AN.value (CE (g:=g) (off:=0) (sz:=1) (k:=i) (len:=2) (cap:=2) 65 (.tmp 109) (.tmp 110) (hx:=(Eq.trans (b:=X 2) (by kernel_rfl) e1)) hi Tryz.underlying65) ⟨hT,CG.refl b u,g,rfl,e2,e3⟩
  ·obtain ⟨g,e1,e2,e3⟩:∃ g,X 4=.pointer (some ⟨g,0 + i * 1,none⟩)∧g≠b∧A7.good u ⟨g,0,[.string ⟨⟨[97]⟩⟩,.string ⟨⟨[98]⟩⟩],9,true⟩:=hf 4 (by kernel_rfl) rfl
   refine AN.loadOne 9 (.tmp 111) (by kernel_rfl) (Eq.trans (b:=X 4) (by kernel_rfl) e1) (v:=.string ⟨⟨RB.getD i []⟩⟩) ?_ (Tryz.isAgg9 u) ⟨hT,CG.refl b u,rfl⟩
   have:=Pm e3 i _ (ABI i hi)
   simpa using this
  ·exact Bn (xs:=[]) (args:=[]) (OA hT (Gg u)) rfl
  ·refine Bn (g:=16) (xs:=[.tmp 113,.tmp 114,.tmp 115,.tmp 117]) (args:=[.pointer (some ⟨b,0,none⟩),X 7,δ (H:Int),δ (IntKind.i64.wrap (4 + (i:Int)))]) ?_ rfl
   rw [show X 7=.agg ⟨Ax Cb⟩ from hf 7 (by kernel_rfl) rfl]
   exact (Oa hH hH2 (by decide) hT).mono fun e w' hh=>Ds hbu.size hh
  ·exact Bn (xs:=[.tmp 119,.const (δ 7)]) (args:=[.pointer (some ⟨b,0,none⟩),δ 7]) ((BR b ns 7 u hT (by omega) (by omega)).mono fun e w' ⟨y,q1,q2,q3,q4⟩=>⟨_,q2,q3,q4,y,by omega,rfl⟩) rfl
  ·exact Gl (fun z=>.slice (some ⟨z,0,none⟩) 3 3) [δ 1,δ 100,δ 1,δ 20,δ 1,δ 1] 41 (fun w' hB hg=>⟨hT.below hB,.of_below hB,u.heap.size,rfl,Nat.ne_of_gt hT.lt,hg⟩) (by intro z; kernel_rfl)
  ·exact Bn (xs:=[.tmp 125,.const (δ 3)]) (args:=[.pointer (some ⟨b,0,none⟩),δ 3]) ((BR b ns 3 u hT (by omega) (by omega)).mono fun e w' ⟨y,q1,q2,q3,q4⟩=>⟨_,q2,q3,q4,y,by omega,rfl⟩) rfl
  ·obtain ⟨g,e1,e2,e3⟩:Fb b [δ 1,δ 100,δ 1,δ 20,δ 1,δ 1] 41 3 (X 17) u:=hf 17 (by kernel_rfl) rfl
   obtain ⟨k,e4,e5⟩:Io 3 (X 19) u:=hf 19 (by kernel_rfl) rfl
   exact AN.value (CE (g:=g) (off:=0) (sz:=2) (k:=k) (len:=3) (cap:=3) 67 (.tmp 124) (.tmp 126) (hx:=(Eq.trans (b:=X 17) (by kernel_rfl) e1)) (hi:=(Eq.trans (b:=X 19) (by kernel_rfl) e5)) e4 Tryz.underlying67) ⟨hT,CG.refl b u,g,k,rfl,e4,e2,e3⟩
  ·obtain ⟨g,k,e1,e2,e3,e4⟩:∃ g k,X 20=.pointer (some ⟨g,0 + k * 2,none⟩)∧k < 3∧g≠b∧A7.good u ⟨g,0,[δ 1,δ 100,δ 1,δ 20,δ 1,δ 1],41,true⟩:=hf 20 (by kernel_rfl) rfl
   obtain ⟨q,hq⟩:∃ q,KS[k]?=some q:=⟨_,List.getElem?_eq_getElem e2⟩
   obtain ⟨g',off,h1,_,h3⟩:=Cl.all (show Cl 2 (fun q:Int×Int=>[δ q.1,δ q.2]) u (some ⟨g,0,none⟩) KS from DJ (fun r hr=>by obtain ⟨e,_,rfl⟩:=List.mem_map.1 hr; rfl) e4) (by decide)
   obtain ⟨rfl,rfl⟩:g=g'∧0=off:=by simpa using h1
   exact AN.loadMid 41 (.tmp 127) (by kernel_rfl) (Eq.trans (b:=X 20) (by kernel_rfl) e1) [δ q.1,δ q.2] (h3 k q hq) (by kernel_rfl) (by kernel_rfl) ⟨hT,CG.refl b u,q,List.mem_of_getElem? hq,rfl⟩
  ·obtain ⟨x,A1,c1,e1,g1,t1⟩:CA w1.heap.size (IntKind.i64.wrap (4 + (i:Int))) H Cb (X 11) u:=hf 11 (by kernel_rfl) rfl
   obtain ⟨k,hk7,e2⟩:Io 7 (X 13) u:=hf 13 (by kernel_rfl) rfl
   obtain ⟨q,hq,e3⟩:∃ q∈KS,X 21=.agg ⟨[δ q.1,δ q.2]⟩:=hf 21 (by kernel_rfl) rfl
   exact AN.over [(112,.string ⟨⟨RB.getD i []⟩⟩),(118,.agg ⟨AX x A1 c1⟩),(120,δ (k:Int)),(128,.agg ⟨[δ q.1,δ q.2]⟩)] ⟨Eq.trans (b:=X 5) (by kernel_rfl) (hf 5 (by kernel_rfl) rfl),Eq.trans (b:=X 11) (by kernel_rfl) e1,Eq.trans (b:=X 13) (by kernel_rfl) e2,Eq.trans (b:=X 21) (by kernel_rfl) e3,trivial⟩ (AN.reads ⟨0,[],(0,0),[]⟩ (fun e he=>by cases he) (.agg ⟨Bg (Jl i x (k:Int) q) none 0 A1 c1⟩) ⟨hT,CG.refl b u,Jl i x (k:Int) q,none,0,A1,c1,rfl,⟨x,(k:Int),q,rfl,by omega,by omega,hq,g1⟩,L6 rfl t1⟩)
  obtain ⟨d,A1,c1,A2,c2,e1,p1,d1⟩:FC w1.heap.size (fun d=>∃ x mode q,d=Jl i x mode q∧0≤mode∧mode≤6∧q∈KS∧CT (IntKind.i64.wrap (4 + (i:Int))) H Cb x) (X 22) u:=hf 22 (by kernel_rfl) rfl
  exact AN.over [(129,.agg ⟨Bg d A1 c1 A2 c2⟩)] ⟨Eq.trans (b:=X 22) (by kernel_rfl) e1,trivial⟩ (Gl (fun z=>.slice (some ⟨z,0,none⟩) 1 1) (Bg d A1 c1 A2 c2) 59 (fun w' hB hg=>⟨hT.below hB,.of_below hB,[(d,Bg d A1 c1 A2 c2)],u.heap.size,rfl,rfl,hbu.size,by simpa using hg,fun x hx=>by rw [List.mem_singleton.1 hx]; exact d1.keep hB.size fun g hg hl=>⟨hg,hB.block g hl⟩,d,rfl,p1⟩) (by intro z; kernel_rfl))
 obtain ⟨es,g,e1,e2,_,hg,hes,hq⟩:Ft w1.heap.size 1 (fun ds=>∃ d,ds=[d]∧(fun d=>∃ x mode q,d=Jl i x mode q∧0≤mode∧mode≤6∧q∈KS∧CT (IntKind.i64.wrap (4 + (i:Int))) H Cb x) d) (X 23) u:=hf 23 (by simp) rfl
 refine Bs ((KB b H w (i:Int))++[(108,.slice A xs.length c),(130,X 23)]) fun E2=>?_
 rw [e1]
 refine Ri K hu es g hg hes (by omega) 24 108 130 (fun A' c' w6 K6=>?_) (by kernel_rfl) (by rw [e2]; kernel_rfl) (by kernel_rfl) (by kernel_rfl)
 refine Do K6 [(25,0,0),(26,1,1)] (fun _=>(Jr w A' (xs++es).length c' gN gT)) fun z w7 K7=>?_
 refine AU (KB b H w (i:Int)) fun E7=>?_
 exact hk A' c' es _ E7 w7 hq e2 K7
end
end
end Go.Proofs.YtkjbdagicjbjjaaGreat
namespace Go.Proofs.YtkjbdagicjbjjaaGreat
noncomputable section
open Go.RowKit
set_option maxRecDepth 100000
set_option maxHeartbeats 1000000
attribute [local irreducible] BD BP AC AD AF Ar AZ AM Aw Bk C6 BV BO At Fr
def XQ (p0:Int):Int×Int:=(p0,1)
def mR (r:Int×Int):Value:=ψ [δ (r.1),δ (r.2)]
noncomputable def ZW:Code:=Tryz.f119.body.getD .skip
def ACC:=ν ([.code ZW])
theorem Lf (a:Int) (w:World):Calls Tryz.prog 119 ([δ a]:List Value).toArray w fun e w'=>e=.returned (mR (XQ a))∧Below (ε w) w w':=by
 refine AS (fn:=Tryz.f119) (c:=ZW) (n:=5) ?_
 have d:=Wk.start w
 refine Am ACC d [(0,0)] fun f b=>?_
 exact AO b (0,0) _ (by unfold XQ; rfl)
def Di (p0:Bool):Int×Int:=cond (p0) ((1,1)) ((0,1))
def Lr (r:Int×Int):Value:=ψ [δ (r.1),δ (r.2)]
noncomputable def ZS:Code:=Tryz.f59.body.getD .skip
def ah:=ν ([.code ZS])
def AB6:=Ξ ah
def AB5:=Ψ ah
theorem Hd (a:Bool) (w:World):Calls Tryz.prog 59 ([ξ a]:List Value).toArray w fun e w'=>e=.returned (Lr (Di a))∧Below (ε w) w w':=by
 refine AS (fn:=Tryz.f59) (c:=ZS) (n:=6) ?_
 have h:=Wk.start w
 refine Am ah h [] fun k d=>?_
 refine AG (a) (fun b=>?_) (fun b=>?_)
 ·refine Am AB6 d [(0,0)] fun j g=>?_
  exact AO g (0,0) _ (by unfold Di; rw [b] <;> rfl)
 refine Am AB5 d [(0,0)] fun i f=>?_
 exact AO f (0,0) _ (by unfold Di; rw [b] <;> rfl)
end
end Go.Proofs.YtkjbdagicjbjjaaGreat

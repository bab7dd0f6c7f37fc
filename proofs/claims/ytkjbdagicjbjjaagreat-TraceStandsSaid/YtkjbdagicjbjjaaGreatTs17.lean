/- Contracts of functions, part 17. -/
import Derived.Test.YtkjbdagicjbjjaaGreatTs16
import Derived.Test.YtkjbdagicjbjjaaGreatTs05
import Derived.Sort.OwnSortedInts
import Derived.Lib.RowBridge
set_option linter.all false
namespace Go.Proofs.YtkjbdagicjbjjaaGreat
noncomputable section
open Go.RowKit
set_option maxRecDepth 100000
set_option maxHeartbeats 1000000
attribute [local irreducible] BD BP AC AD AF Ar AZ AM Aw Bk C6 BV BO At Fr
mutual
def GO:Ex→List Ex
 | .mk op a b c d e nm cnt md ks=>cond (cond (op == 3) true (op == 4)) [.mk op a b c d e nm cnt md ks] []++F3 ks
def F3:List Ex→List Ex
 | []=>[]
 | e :: es=>GO e++F3 es
end
mutual
def nE:Ex→Nat
 | .mk _ _ _ _ _ _ _ _ _ ks=>1 + Fd ks
def Fd:List Ex→Nat
 | []=>0
 | e :: es=>nE e + Fd es
end
mutual
theorem Wz:∀ e:Ex,(GO e).length≤nE e
 | .mk op a b c d e nm cnt md ks=>by
  rw [GO,nE,List.length_append]
  have h:=So ks
  cases cond (op == 3) true (op == 4) <;> simp only [cond_true,cond_false,List.length_cons,List.length_nil] <;> omega
theorem So:∀ es:List Ex,(F3 es).length≤Fd es
 | []=>Nat.le_refl _
 | e :: es=>by
  rw [F3,Fd,List.length_append]
  have a:=Wz e
  have h2:=So es
  omega
end
theorem ph (x:Ex):GO x=cond (cond (x.op == 3) true (x.op == 4)) [x] []++F3 x.ks:=by
 cases x with
 | mk=>rw [GO]; rfl
theorem OR (x:Ex):nE x=1 + Fd x.ks:=by
 cases x with
 | mk=>rw [nE]; rfl
theorem gM {x e:Ex} {i:Nat} (h:x.ks[i]?=some e):e.height < x.height:=by
 cases x with
 | mk a1 a2 a3 a4 a5 a6 a7 a8 a9 ks=>
  have:=JM (show ks[i]?=some e from h)
  rw [Ex.height]
  omega
theorem Oc {α:Type} {l:List α} {i:Nat} {e:α} (h:l[i]?=some e):l.drop i=e :: l.drop (i + 1):=by
 have hl:i < l.length:=(List.getElem?_eq_some_iff.1 h).1
 rw [← List.getElem_cons_drop hl,(List.getElem?_eq_some_iff.1 h).2]
theorem qN {x:Ex} (h:Dm x):x.ks.length≤4294967296:=by
 cases x with
 | mk=>exact h.2.1
def BZ (l:List Ex) (x:Ex):List Ex:=l++GO x
theorem MX (l:List Ex) (x:Ex):(BZ l x).length≤l.length + nE x:=by
 have:=Wz x
 unfold BZ
 rw [List.length_append]
 omega
def FP:List (Ex)→List Ex→List Ex
 | [],a1_0=>a1_0
 | e1 :: tl,a1_0=>FP tl (BZ a1_0 e1)
theorem W0 {a:List Ex}:FP [] a=(a):=by rw [FP]
theorem TI {a:List Ex} {es:List (Ex)} (i:Nat) (b:Ex) (hi:es[i]?=some b):FP (es.drop i) a=(FP (es.drop (i + 1)) (BZ a b)):=by
 have hl:i < es.length:=(List.getElem?_eq_some_iff.1 hi).1
 have he:es[i]=b:=(List.getElem?_eq_some_iff.1 hi).2
 rw [← List.getElem_cons_drop hl,FP] <;> (try rw [he])
def FQ:List (Ex)→List Ex→List Ex
 | [],a0_0=>a0_0
 | e0 :: tl,a0_0=>FQ tl (BZ a0_0 e0)
theorem W1 {a:List Ex}:FQ [] a=(a):=by rw [FQ]
theorem TJ {a:List Ex} {es:List (Ex)} (i:Nat) (b:Ex) (hi:es[i]?=some b):FQ (es.drop i) a=(FQ (es.drop (i + 1)) (BZ a b)):=by
 have hl:i < es.length:=(List.getElem?_eq_some_iff.1 hi).1
 have he:es[i]=b:=(List.getElem?_eq_some_iff.1 hi).2
 rw [← List.getElem_cons_drop hl,FQ] <;> (try rw [he])
def IF (l:List Ex) (x:Ex):List Ex:=cond (cond (x.op == 3) (true) (x.op == 4)) (FQ x.ks (l++[x])) (FP x.ks l)
noncomputable def nO:Code:=Tryz.f83.body.getD .skip
def AAK:=Al 1 ([.code nO])
def eT:=AI AAK
def o8:=AA (An Bp 90 (AD eT)) (AD eT)
def o7:=Ω o8
def eS:=ν (Ar o7)
def AAJ:=AA (An Ae 90 (AD eS)) (AD eS)
def AFi:=ν (AC (AC AAJ))
def AFh:=Ψ eS
def o6:=Ψ eT
def eR:=ν (Ar o6)
def uT:=AA (An Ae 90 (AD eR)) (AD eR)
def AD8:=ν (AC (AC uT))
def AD7:=Ψ eR
theorem ly (L:List Th) (r:Option Addr) (l:List Ex) (q:Nat) (x:Ex) (b:Option Addr) (a:Nat) (w we:World) (t0:rowsEx w b x.ks) (h1:Dm x) (k1:∀ (L:List Th) (r:Option Addr) (l:List Ex) (q:Nat) (x':Ex) (b:Option Addr) (a:Nat) (w we:World),rowsEx w b x'.ks→x'∈x.ks→l.length + nE x'≤100000000→Below (ε w) w we→Aj (ε w) we ([Fh w r q l]++L)→Calls Tryz.prog 83 ([τ r l.length q,ψ (AX x' b a)]:List Value).toArray we fun e w'=>∃ (j0:Option Addr) (h0:Nat),e=.returned (τ j0 (BZ l x').length h0)∧Below (ε w) w w'∧Aj (ε w) w' ([Fh w j0 h0 (BZ l x')]++L)) (hb:l.length + nE x≤100000000) (B:Below (ε w) w we) (H:Aj (ε w) we ([(Fh w r q l)]++L)):Calls Tryz.prog 83 ([τ r l.length q,ψ ((Γ x b a))]:List Value).toArray we fun e w'=>∃ (j0:Option Addr) (h0:Nat),e=.returned (τ j0 ((IF l x).length) h0)∧Below (ε w) w w'∧Aj (ε w) w' ([Fh w j0 h0 (IF l x)]++L):=by
 refine AS (fn:=Tryz.f83) (c:=nO) (n:=31) ?_
 have K1:Wk w we [] [(Fh w r q l)] L:=⟨B,H⟩
 clear B H
 have b3:=qN h1
 refine CC 1 AAK [ι (ε we) ((AX x b a)) 53] K1 [] fun w1 K2=>?_
 refine Av K2 [(1,0,0),(5,0,0)] [] K2.G (fun sp c2=>by cases c2) fun w2 E2 K3=>?_
 refine AB eT K3 [] fun w3 K4=>?_
 refine AG (cond (x.op == 3) (true) (x.op == 4)) (fun c4=>?_) (fun c4=>?_)
 ·refine CY Bp o8 [ι (ε we) ((AX x b a)) 53,ι (ε w3) ((AX x b a)) 53] K4 [(0,0)] fun w5 K5=>?_
  refine Cw K5.H (K5.ix 0) (K5.at 0 rfl) x (Γ x b a) (Xa t0) (ε w3) (K5.ent 1 (by kernel_rfl)) (CL o8) (by kernel_rfl) (.tmp 15) (.tmp 17) 51 (by kernel_rfl) (by kernel_rfl) (by kernel_rfl) (by decide) (by kernel_rfl) (by kernel_rfl) rfl rfl (by ((try simp only [maxLen,List.length_append,List.length_cons,List.length_nil,List.length_singleton]) <;> omega)) fun A6 c6 w6 Hn b6=>?_
  have K6:=K5.put 0 (by simp) b6 Hn
  refine AB o7 K6 [(0,9)] fun w7 K7=>?_
  have K8:Wk w w7 [] [(Fh w A6 c6 (l++[x]))] L:=K7.pk [] [0]
  have v:(IF l x)=FQ x.ks (l++[x]):=by unfold IF; rw [c4] <;> rfl
  refine AU [(0,τ A6 ((l++[x]).length) c6),(4,τ none 0 0),(20,τ b x.ks.length a),(21,δ ((x.ks.length:Int))),(22,δ (((0:Nat):Int)))] fun E8=>?_
  refine Bo (by kernel_rfl) (fun E g1=>∃ (t:Nat) (f:List Ex) (m:Option Addr) (j:Nat) (E0:Nat→Value),t≤x.ks.length∧E=BE E0 [(0,τ m f.length j),(4,τ none 0 0),(20,τ b x.ks.length a),(21,δ ((x.ks.length:Int))),(22,δ ((t:Int)))]∧(IF l x)=FQ (List.drop t x.ks) f∧f.length + Fd (List.drop t x.ks)≤100000000∧Wk w g1 [] [(Fh w m j f)] L) (fun E _=>x.ks.length - AL (E 22)) ⟨0,(l++[x]),A6,c6,E8,Nat.zero_le _,rfl,v,by (rw [OR] at hb; simp only [List.drop_zero,List.length_append,List.length_singleton]; omega),K8⟩ ?_
  clear v
  rintro E g1 ⟨t,f,m,j,E0,e3,rfl,v,z0,K9⟩ s0
  refine AB eS K9 [] fun a3 s1=>?_
  refine AG (decide ((t:Int) < (x.ks.length:Int))) (fun b1=>?_) (fun b1=>?_)
  ·have m0:t < x.ks.length:=by have:=of_decide_eq_true b1; omega
   obtain ⟨e0,q0⟩:∃ e,x.ks[t]?=some e:=⟨_,List.getElem?_eq_getElem m0⟩
   rw [TJ t e0 q0] at v
   obtain ⟨z,a0,rfl,v0,w0⟩:=t0.all0 (by omega)
   obtain ⟨p,o,k0,y⟩:=w0 t _ q0
   refine Ak Ae AAJ s1 [] fun b2 r1=>?_
   refine Ay (g:=z) (off:=a0) (cap:=a) (sz:=10) (k:=t) (len:=x.ks.length) (some 24) m0 Tryz.underlying51 ?_
   refine BN 53 z (a0 + t * 10) _ (some 25) (Ag k0 v0 r1.B) ?_
   refine Ah AFi [ι (ε b2) ((AX e0 p o)) 53] r1 [(0,0),(0,0)] fun a2 q1=>?_
   have Kf:=(q1.pickL (L':=[(Fh w m j f)]++[]) [0] rfl (by decide)).front
   refine BA (k1 _ m f j e0 p o w a2 y (List.mem_of_getElem? q0) (by rw [Oc q0] at z0; simp only [Fd] at z0; omega) q1.B Kf) fun en z2 hh=>?_
   obtain ⟨g0,c0,rfl,e2,Hn⟩:=hh
   refine ⟨_,rfl,?_⟩
   have p2:=Wk.unfront e2 Hn
   refine AB (AZ o7) p2 [] fun z1 o2=>?_
   refine AU [(0,τ g0 ((BZ f e0).length) c0),(4,τ none 0 0),(20,τ (some ⟨z,a0,none⟩) x.ks.length a),(21,δ ((x.ks.length:Int))),(22,δ (IntKind.i64.wrap ((t:Int) + 1)))] fun s2=>?_
   have n2:Wk w z1 [] [(Fh w g0 c0 (BZ f e0))] L:=o2.pk [] [0]
   rw [Bl t (by omega)]
   refine s0 _ _ ⟨t + 1,(BZ f e0),g0,c0,s2,m0,rfl,by rw [v] <;> rfl,by (rw [Oc q0] at z0; simp only [Fd] at z0; have:=MX f e0; omega),n2⟩ ?_
   show x.ks.length - AL (δ ((t + 1:Nat):Int)) < x.ks.length - AL (δ (t:Int))
   simp only [AL]
   omega
  have m1:t=x.ks.length:=by have:=of_decide_eq_false b1; omega
  rw [m1,List.drop_length,W1] at v
  refine AB AFh s1 [] fun x2 d1=>?_
  have hS:(IF l x)=f:=by rw [v] <;> rfl
  exact AK d1 (0,0) (τ m f.length j) ⟨m,j,by rw [hS] <;> rfl,d1.B,by rw [hS]; exact d1.own [0] rfl (by decide)⟩
 refine AB o6 K4 [(0,9)] fun x1 m2=>?_
 have l2:Wk w x1 [] [(Fh w r q l)] L:=m2.pk [] [0]
 have u:(IF l x)=FP x.ks l:=by unfold IF; rw [c4] <;> rfl
 refine AU [(0,τ r l.length q),(4,τ none 0 0),(20,τ b x.ks.length a),(21,δ ((x.ks.length:Int))),(22,δ (((0:Nat):Int)))] fun r2=>?_
 refine Bo (by kernel_rfl) (fun E f1=>∃ (s:Nat) (d:List Ex) (i:Option Addr) (h:Nat) (E0:Nat→Value),s≤x.ks.length∧E=BE E0 [(0,τ i d.length h),(4,τ none 0 0),(20,τ b x.ks.length a),(21,δ ((x.ks.length:Int))),(22,δ ((s:Int)))]∧(IF l x)=FP (List.drop s x.ks) d∧d.length + Fd (List.drop s x.ks)≤100000000∧Wk w f1 [] [(Fh w i h d)] L) (fun E _=>x.ks.length - AL (E 22)) ⟨0,l,r,q,r2,Nat.zero_le _,rfl,u,by (rw [OR] at hb; simp only [List.drop_zero,List.length_append,List.length_singleton]; omega),l2⟩ ?_
 clear u
 rintro E f1 ⟨s,d,i,h,E0,c3,rfl,u,x0,k2⟩ r0
 refine AB eR k2 [] fun v2 p1=>?_
 refine AG (decide ((s:Int) < (x.ks.length:Int))) (fun a1=>?_) (fun a1=>?_)
 ·have l0:s < x.ks.length:=by have:=of_decide_eq_true a1; omega
  obtain ⟨e1,p0⟩:∃ e,x.ks[s]?=some e:=⟨_,List.getElem?_eq_getElem l0⟩
  rw [TI s e1 p0] at u
  obtain ⟨z,a0,rfl,v0,w0⟩:=t0.all0 (by omega)
  obtain ⟨p,o,k0,y⟩:=w0 s _ p0
  refine Ak Ae uT p1 [] fun v1 o1=>?_
  refine Ay (g:=z) (off:=a0) (cap:=a) (sz:=10) (k:=s) (len:=x.ks.length) (some 24) l0 Tryz.underlying51 ?_
  refine BN 53 z (a0 + s * 10) _ (some 25) (Ag k0 v0 o1.B) ?_
  refine Ah AD8 [ι (ε v1) ((AX e1 p o)) 53] o1 [(0,0),(0,0)] fun u1 n1=>?_
  have Kf:=(n1.pickL (L':=[(Fh w i h d)]++[]) [0] rfl (by decide)).front
  refine BA (k1 _ i d h e1 p o w u1 y (List.mem_of_getElem? p0) (by rw [Oc p0] at x0; simp only [Fd] at x0; omega) n1.B Kf) fun en u2 hh=>?_
  obtain ⟨d0,b0,rfl,d2,Hn⟩:=hh
  refine ⟨_,rfl,?_⟩
  have i2:=Wk.unfront d2 Hn
  refine AB (AZ o6) i2 [] fun t1 h2=>?_
  refine AU [(0,τ d0 ((BZ d e1).length) b0),(4,τ none 0 0),(20,τ (some ⟨z,a0,none⟩) x.ks.length a),(21,δ ((x.ks.length:Int))),(22,δ (IntKind.i64.wrap ((s:Int) + 1)))] fun q2=>?_
  have g2:Wk w t1 [] [(Fh w d0 b0 (BZ d e1))] L:=h2.pk [] [0]
  rw [Bl s (by omega)]
  refine r0 _ _ ⟨s + 1,(BZ d e1),d0,b0,q2,l0,rfl,by rw [u] <;> rfl,by (rw [Oc p0] at x0; simp only [Fd] at x0; have:=MX d e1; omega),g2⟩ ?_
  show x.ks.length - AL (δ ((s + 1:Nat):Int)) < x.ks.length - AL (δ (s:Int))
  simp only [AL]
  omega
 have l1:s=x.ks.length:=by have:=of_decide_eq_false a1; omega
 rw [l1,List.drop_length,W0] at u
 refine AB AD7 p1 [] fun t2 c1=>?_
 have hS:(IF l x)=d:=by rw [u] <;> rfl
 exact AK c1 (0,0) (τ i d.length h) ⟨i,h,by rw [hS] <;> rfl,c1.B,by rw [hS]; exact c1.own [0] rfl (by decide)⟩
def qZ (n:Nat):Prop:=∀ (L:List Th) (p0A:Option Addr) (l:List Ex) (p0c:Nat) (x:Ex) (p1A0:Option Addr) (p1c0:Nat) (w we:World),rowsEx w p1A0 x.ks→x.height≤n→Dm x→l.length + nE x≤100000000→Below (ε w) w we→Aj (ε w) we ([Fh w p0A p0c l]++L)→Calls Tryz.prog 83 ([τ p0A l.length p0c,ψ (AX x p1A0 p1c0)]:List Value).toArray we fun e w'=>∃ (rA0:Option Addr) (rc0:Nat),e=.returned (τ rA0 (BZ l x).length rc0)∧Below (ε w) w w'∧Aj (ε w) w' ([Fh w rA0 rc0 (BZ l x)]++L)
theorem Sn {x:Ex}:∀ (ks a:List Ex),FQ ks a=a++F3 ks
 | [],a=>by rw [FQ,F3,List.append_nil]
 | e :: es,a=>by rw [FQ,F3,Sn (x:=x) es,BZ,List.append_assoc]
theorem Qz {x:Ex}:∀ (ks a:List Ex),FP ks a=a++F3 ks
 | [],a=>by rw [FP,F3,List.append_nil]
 | e :: es,a=>by rw [FP,F3,Qz (x:=x) es,BZ,List.append_assoc]
theorem pi (l:List Ex) (x:Ex):IF l x=BZ l x:=by
 unfold IF
 rw [Sn (x:=x),Qz (x:=x),BZ,ph]
 cases cond (x.op == 3) true (x.op == 4) <;> simp
theorem Wy:∀ (n:Nat),qZ n
 | 0=>fun L e l d x b a w h c g=>by
  cases x with
  | mk=>rw [Ex.height] at g; omega
 | n + 1=>fun L e l d x b a w h c g f hb B H=>by
  have:=ly L e l d x b a w h c f (fun L e l d j b a w h c hm hb B H=>Wy n L e l d j b a w h c ?_ ?_ hb B H) hb B H
  ·rwa [pi] at this
  ·obtain ⟨i,hi⟩:=List.mem_iff_getElem?.1 hm
   have:=gM hi
   omega
  obtain ⟨i,hi⟩:=List.mem_iff_getElem?.1 hm
  cases x with
  | mk=>exact Mv f.2.2 hi
end
end Go.Proofs.YtkjbdagicjbjjaaGreat
namespace Go.Proofs.YtkjbdagicjbjjaaGreat
end Go.Proofs.YtkjbdagicjbjjaaGreat
namespace Go.Proofs.YtkjbdagicjbjjaaGreat
noncomputable section
open Go.RowKit
set_option maxRecDepth 100000
set_option maxHeartbeats 1000000
attribute [local irreducible] BD BP AC AD AF Ar AZ AM Aw Bk C6 BV BO At Fr
theorem gt {f:FuncId} {args:Array Value} {w:World} {v:Value} (h:Calls Tryz.prog f args w fun e w'=>e=.returned v∧w'=w):Calls Tryz.prog f args w fun e w'=>e=.returned v∧Below (ε w) w w':=
 h.mono fun _ _ a=>⟨a.1,Rg a.2.symm⟩
def X6:Int:=0
noncomputable def X1:Code:=Tryz.f114.body.getD .skip
def pZ:List Item:=(Cm (fun _=>false) 400 [false] ([.code X1])).2
def AGH:List Item:=(Cm (fun _=>false) 400 [] (AC pZ)).2
theorem X5 (w:World):Calls Tryz.prog 114 ([.int .u64 0]:List Value).toArray w fun e w'=>e=.returned (δ (X6))∧Below (ε w) w w':=by
 refine AS (fn:=Tryz.f114) (c:=X1) (n:=8) ?_
 have g:=Wk.start w
 refine CZ (Cm (fun _=>false) 400 [false] ([.code X1])).1 [] pZ g fun a f=>?_
 refine AP f (gt (Tryz.bits_Len64 0 a (by decide) (by decide))) fun i d=>?_
 refine CZ (Cm (fun _=>false) 400 [] (AC pZ)).1 [] AGH d fun h b=>?_
 exact AO b (0,0) _ (by unfold X6; rfl)
def mS:Unit:=()
noncomputable def Xx:Code:=Tryz.f133.body.getD .skip
def AFz:List Item:=(Cm (fun _=>false) 400 [false] ([.code Xx])).2
theorem gJ (w:World):Calls Tryz.prog 133 ([τ none 0 0,δ 0,δ 0]:List Value).toArray w fun e w'=>e=.returned (.tuple #[])∧Below (ε w) w w':=by
 refine AS (fn:=Tryz.f133) (c:=Xx) (n:=49) ?_
 have b:=Wk.start w
 refine CZ (Cm (fun _=>false) 400 [false] ([.code Xx])).1 [] AFz b fun d a=>?_
 have f:(mS)=():=by unfold mS; rfl
 exact AK a (0,0) (.tuple #[]) ⟨rfl,a.B⟩
def mA:Unit:=()
noncomputable def Xv:Code:=Tryz.f113.body.getD .skip
def o9:List Item:=(Cm (fun _=>false) 400 [true] ([.code Xv])).2
def AFj:List Item:=(Cm (fun _=>false) 400 [] (AC o9)).2
theorem fw (w:World):Calls Tryz.prog 113 ([τ none 0 0,δ 0,δ 0,δ 0]:List Value).toArray w fun e w'=>e=.returned (.tuple #[])∧Below (ε w) w w':=by
 refine AS (fn:=Tryz.f113) (c:=Xv) (n:=134) ?_
 have g:=Wk.start w
 refine CZ (Cm (fun _=>false) 400 [true] ([.code Xv])).1 [] o9 g fun b f=>?_
 refine AP f (gJ b) fun i d=>?_
 refine CZ (Cm (fun _=>false) 400 [] (AC o9)).1 [] AFj d fun h a=>?_
 have j:(mA)=():=by unfold mA; rfl
 exact AK a (0,0) (.tuple #[]) ⟨rfl,a.B⟩
def Y3:Unit:=()
noncomputable def Xu:Code:=Tryz.f85.body.getD .skip
def o5:List Item:=(Cm (fun _=>false) 400 [] ([.code Xu])).2
def o4:List Item:=(Cm (fun _=>false) 400 [] (AC o5)).2
def AFf:List Item:=(Cm (fun _=>false) 400 [] (AC o4)).2
theorem YO (w:World):Calls Tryz.prog 85 ([τ none 0 0]:List Value).toArray w fun e w'=>e=.returned (.tuple #[])∧Below (ε w) w w':=by
 refine AS (fn:=Tryz.f85) (c:=Xu) (n:=11) ?_
 have j:=Wk.start w
 refine CZ (Cm (fun _=>false) 400 [] ([.code Xu])).1 [] o5 j fun d i=>?_
 refine AP i (X5 d) fun m h=>?_
 refine CZ (Cm (fun _=>false) 400 [] (AC o5)).1 [] o4 h fun b g=>?_
 refine AP g (fw b) fun l f=>?_
 refine CZ (Cm (fun _=>false) 400 [] (AC o4)).1 [] AFf f fun k a=>?_
 have o:(Y3)=():=by unfold Y3; rfl
 exact AK a (0,0) (.tuple #[]) ⟨rfl,a.B⟩
set_option maxHeartbeats 400000
def DS (l:List Nat):List Int:=l.map Int.ofNat
def GN (l:List Nat):List Nat:=((DS l).mergeSort fun x y=>decide (x≤y)).map Int.toNat
def Eo (l:List Nat):List Nat:=(Lib.compact (DS l)).map Int.toNat
theorem S3 {a:List Int} (h:∀ z∈a,0≤z):DS (a.map Int.toNat)=a:=by
 unfold DS
 rw [List.map_map]
 refine (List.map_congr_left fun z hz=>?_).trans (List.map_id _)
 have:=h z hz
 simp only [Function.comp_apply,id_eq]
 exact Int.toNat_of_nonneg this
theorem Nn {l:List Nat}:∀ z∈DS l,0≤z:=fun z hz=>by
 obtain ⟨n,_,rfl⟩:=List.mem_map.1 hz
 exact Int.natCast_nonneg n
theorem lq:GN []=[]:=by unfold GN DS; simp
theorem LI (l:List Nat):(GN l).length=l.length:=by
 unfold GN DS
 rw [List.length_map,List.length_mergeSort,List.length_map]
theorem fe (l:List Nat):DS (GN l)=(DS l).mergeSort fun x y=>decide (x≤y):=S3 fun z hz=>Nn z (List.mem_mergeSort.1 hz)
theorem Si {l:List Nat} {n:Nat}:n∈GN l↔n∈l:=by
 unfold GN DS
 constructor
 ·intro h
  obtain ⟨z,hz,rfl⟩:=List.mem_map.1 h
  obtain ⟨m,hm,rfl⟩:=List.mem_map.1 (List.mem_mergeSort.1 hz)
  exact hm
 intro h
 exact List.mem_map.2 ⟨Int.ofNat n,List.mem_mergeSort.2 (List.mem_map.2 ⟨n,h,rfl⟩),rfl⟩
theorem PC {a:List Int} {z:Int} (h:z∈Lib.compact a):z∈a:=by
 unfold Lib.compact Lib.compactUpTo at h
 obtain ⟨i,hi,rfl⟩:=List.mem_map.1 h
 have hl:i < a.length:=List.mem_range.1 (List.mem_filter.1 hi).1
 rw [getElem!_pos _ i (by simpa using hl)]
 simp
theorem TS (l:List Nat):DS (Eo l)=Lib.compact (DS l):=S3 fun z hz=>Nn z (PC hz)
theorem Nz {l:List Nat} {n:Nat} (h:n∈Eo l):n∈l:=by
 obtain ⟨z,hz,rfl⟩:=List.mem_map.1 h
 obtain ⟨m,hm,rfl⟩:=List.mem_map.1 (PC hz)
 exact hm
theorem N0 (l:List Nat):(Eo l).length≤l.length:=by
 unfold Eo
 rw [List.length_map]
 exact Nat.le_trans (Lib.compact_length_le _) (by unfold DS; rw [List.length_map]; exact Nat.le_refl _)
theorem Ld (l:List Nat):(l.map Fw).flatten=(DS l).map (Value.int .i64):=by
 induction l with
 | nil=>rfl
 | cons n l ih=>rw [List.map_cons,List.flatten_cons,ih]; rfl
section
variable {b:Nat} {w we:World} {L:List Th} {g c:Nat} {l:List Nat}
theorem Kd (H:Aj b we ([BS (θ g) c l]++L)):∃ a,we.heap[g]?=some (.cells a 3 (0,0))∧l.length≤c∧c≤maxLen∧a.size=c * 1∧a.toList.take l.length=(DS l).map (Value.int .i64):=by
 obtain ⟨rs,hr,ho⟩:(BS (θ g) c l).P we:=H.all 0 _ rfl
 rcases ho.2 with ⟨d,_⟩ | ⟨e,cap,a,d,_,hg,hc,hm,hs,ht⟩
 ·cases d
 cases d
 rw [IU hr,Ld,Nat.mul_one] at ht
 exact ⟨a,hg,hc,hm,hs,ht⟩
theorem RC (H:Aj b we ([BS (θ g) c l]++L)) {n:Nat} {os:Array Obj} {ts:List Int} (hl:ts.length=l.length) (l':List Nat) (j:ts.take l'.length=DS l') (h:l'.length≤l.length) :
  Below b we (Go.Sort.grow (Go.Sort.putRow (Value.int .i64) (Go.Sort.ahead we n) g 0 ts.toArray) os)∧Aj b (Go.Sort.grow (Go.Sort.putRow (Value.int .i64) (Go.Sort.ahead we n) g 0 ts.toArray) os) ([BS (θ g) c l']++L):=by
 obtain ⟨i,hb,o,h2,m,p⟩:=Kd H
 have hg:=grownBy_sortedI (w:=we) (g:=g) (n:=n) (os:=os) ts.toArray
 have f:=H.lo 0 _ rfl g rfl
 refine ⟨⟨hg.os,hg.tape,hg.output,hg.size,fun k d=>hg.block k (Nat.lt_of_lt_of_le d H.base) fun he=>by have:=Option.some.inj he; omega⟩,?_⟩
 refine H.set 0 (s:=BS (θ g) c l) rfl hg.size ⟨l'.map Fw,?_,?_,?_⟩ (fun k d=>⟨?_,.inl d⟩) (fun k d hf=>hg.block k d fun he=>hf (by obtain rfl:=Option.some.inj he; rfl))
 ·have:∀ q:List Nat,ET (fun e r=>r=Fw e) q (q.map Fw):=fun q=>by
   induction q with
   | nil=>trivial
   | cons a q ih=>exact ⟨rfl,ih⟩
  exact this l'
 ·rw [Ld]; unfold DS; simp
 ·refine .inr ⟨g,c,_,rfl,Nat.zero_le _,heap_sortedI _ hb,Nat.le_trans h o,h2,by simp [Go.Sort.putCells,m],?_⟩
  rw [Nat.mul_one,Ld,← j,List.map_take,← take_putCellsI i ts (by omega),List.take_take,Nat.min_eq_left (by omega)]
 obtain rfl:g=k:=by have:=Option.some.inj d; injection this
 exact Nat.lt_of_lt_of_le f.2 hg.size
theorem pf (L:List Th) (c:Option Addr) (l:List Nat) (a:Nat) (w d:World) (k:l.length≤4294967296) (B:Below (ε w) w d) (H:Aj (ε w) d ([BS c a l]++L)):Calls Tryz.prog 85 ([τ c l.length a]:List Value).toArray d fun e w'=>e=.returned (.tuple #[])∧Below (ε w) w w'∧Aj (ε w) w' ([BS c a (GN l)]++L):=by
 obtain ⟨rs,hr,ho⟩:(BS c a l).P d:=H.all 0 _ rfl
 rcases ho.2 with ⟨f,p⟩ | ⟨g,cap,i,f,_⟩
 ·obtain rfl:l=[]:=List.eq_nil_of_length_eq_zero p
  obtain ⟨rfl,rfl⟩:c=none∧a=0:=by injection f with e1 e2 e3; exact ⟨e1,e3⟩
  refine (YO d).mono fun e w' h=>?_
  obtain ⟨rfl,b⟩:=h
  exact ⟨rfl,B.trans (b.mono B.size),by rw [lq]; exact H.below b⟩
 obtain ⟨rfl,rfl⟩:c=θ g∧a=cap:=by injection f with e1 e2 e3; exact ⟨e1,e3⟩
 obtain ⟨i,hb,f,h2,q,o⟩:=Kd H
 have m:=holds_of_blockI (ss:=DS l) hb (by unfold DS at *; rw [List.length_map]; exact o)
 have:=Tryz.slices_Sort_int g 0 a (DS l) d m (L3 hb) (by unfold DS; rw [List.length_map]; omega)
 rw [show (DS l).length=l.length by unfold DS; rw [List.length_map]] at this
 refine this.mono fun e w' h=>?_
 obtain ⟨rfl,n,os,rfl⟩:=h
 have j:=RC H (n:=n) (os:=os) (ts:=(DS l).mergeSort fun x y=>decide (x≤y)) (by unfold DS; rw [List.length_mergeSort,List.length_map]) (GN l) (by rw [← fe]; exact List.take_of_length_le (by unfold DS; rw [List.length_map]; exact Nat.le_refl _)) (by rw [LI]; exact Nat.le_refl _)
 exact ⟨rfl,B.trans j.1,j.2⟩
theorem Yj (L:List Th) (b:Option Addr) (l:List Nat) (a:Nat) (w c:World) {m:Nat} (r:l.length≤4294967296) (hm:l.length=m) (B:Below (ε w) w c) (H:Aj (ε w) c ([BS b a l]++L)):Calls Tryz.prog 86 ([τ b m a]:List Value).toArray c fun e w'=>∃ (f:Option Addr) (d:Nat),e=.returned (τ f (Eo l).length d)∧Below (ε w) w w'∧Aj (ε w) w' ([BS f d (Eo l)]++L):=by
 subst hm
 obtain ⟨rs,hr,ho⟩:(BS b a l).P c:=H.all 0 _ rfl
 rcases ho.2 with ⟨j,v⟩ | ⟨g,cap,p,j,_⟩
 ·obtain rfl:l=[]:=List.eq_nil_of_length_eq_zero v
  obtain ⟨rfl,rfl⟩:b=none∧a=0:=by injection j with e1 e2 e3; exact ⟨e1,e3⟩
  refine (Tryz.slices_Compact_int_empty none 0 c).mono fun e w' o=>?_
  obtain ⟨rfl,rfl⟩:=o
  exact ⟨none,0,rfl,B,H⟩
 obtain ⟨rfl,rfl⟩:b=θ g∧a=cap:=by injection j with e1 e2 e3; exact ⟨e1,e3⟩
 obtain ⟨p,hb,j,h2,x,u⟩:=Kd H
 have h:(DS l).length=l.length:=by unfold DS; rw [List.length_map]
 have t:=holds_of_blockI (ss:=DS l) hb (by rw [h]; exact u)
 have:=Tryz.slices_Compact_int g 0 a (DS l) c t (by omega) (by omega)
 rw [h] at this
 refine this.mono fun e w' o=>?_
 obtain ⟨rfl,q,rfl⟩:=o
 have s:=Lib.compact_length_le (DS l)
 have i:(Eo l).length=(Lib.compact (DS l)).length:=by unfold Eo; rw [List.length_map]
 have k:=RC H (n:=q) (os:=#[]) (ts:=Lib.compact (DS l)++List.replicate (l.length - (Lib.compact (DS l)).length) 0) (by rw [List.length_append,List.length_replicate]; omega) (Eo l) (by rw [TS,i,List.take_left]) (N0 l)
 rw [Go.Sort.grow_empty] at k
 exact ⟨θ g,a,by rw [i],B.trans k.1,k.2⟩
end
theorem DR {α:Type} [Inhabited α] {l:List α} {i:Nat} (h:i < l.length):l.getD i default∈l:=List.mem_of_getElem? (getD_some default h)
theorem Q0 (x:Ex):(BZ [] x).length≤nE x:=by simpa using MX [] x
theorem NB {ds:List Df} {x:Ex} {P:Nat→Prop}:∀ (act:List Nat) (a:Int) (b:Bool),(∀ i∈act,P i)→(!(Bw ds x act a b).2)=false→P (Bw ds x act a b).1
 | [],a,b,_,h=>by rw [Bw] at h; cases h
 | e :: es,a,b,hp,h=>by
  rw [Bw] at h ⊢
  revert h
  cases (cond (cond (cond (x.op == 3) (Ac (κ ds e)) (false)) (true) (cond (x.op == 4) ((κ ds e).kind == 2) (false))) (decide ((κ ds e).name=x.nm)) (false)) <;> intro h
  ·exact NB es a b (fun i hi=>hp i (by simp [hi])) h
  exact hp e (by simp)
theorem NA {ds:List Df} {x:Ex} {P:Nat→Prop}:∀ (act:List Nat) (a:Int) (b:Bool),(∀ i∈act,P i)→(!(CP ds x act a b).2)=false→P (CP ds x act a b).1
 | [],a,b,_,h=>by rw [CP] at h; cases h
 | e :: es,a,b,hp,h=>by
  rw [CP] at h ⊢
  revert h
  cases (cond (cond (cond (x.op == 3) (Ac (κ ds e)) (false)) (true) (cond (x.op == 4) ((κ ds e).kind == 2) (false))) (decide ((κ ds e).name=x.nm)) (false)) <;> intro h
  ·exact NA es a b (fun i hi=>hp i (by simp [hi])) h
  exact hp e (by simp)
theorem NC {ds:List Df} {x:Ex} {act:List Nat} (c:∀ i∈act,i < ds.length):∀ (es:List Df) (i:Nat) (a:Int) (b:Bool),i + es.length=ds.length→(!(Bf ds act x es i a b).2)=false→(Bf ds act x es i a b).1 < ds.length
 | [],i,a,b,_,h=>by rw [Bf] at h ⊢; exact NB (P:=fun i=>i < ds.length) act a b c h
 | e :: es,i,a,b,hl,h=>by
  rw [List.length_cons] at hl
  rw [Bf] at h ⊢
  revert h
  cases (cond (e.kind == 1) (decide (e.name=x.nm)) (false)) <;> intro h
  ·exact NC c es (i + 1) a b (by omega) h
  show i < ds.length
  omega
theorem Jy {ds:List Df} {x:Ex} {act:List Nat} (a:∀ i∈act,i < ds.length) (h:(!(Aq ds act x).2)=false):(Aq ds act x).1 < ds.length:=by
 unfold Aq at h ⊢
 revert h
 cases x.op == 3 <;> intro h
 ·exact NA (P:=fun i=>i < ds.length) act 0 false a h
 exact NC a ds 0 0 false (Nat.zero_add _) h
def Cc (ds:List (Df)) (act:List (Nat)):List (Ex)→Int→List Nat→List Nat×Int
 | [],a0_0,a0_1=>((Eo (GN a0_1)),0)
 | e0 :: tl,a0_0,a0_1=>cond (!(((Aq ds act e0)).2)) (([],7)) (cond (Ac ((ds.getD ((Aq ds act e0)).1 default))) (Cc ds act tl a0_0 (a0_1++[((Aq ds act e0)).1])) (Cc ds act tl a0_0 a0_1))
theorem TL {ds:List (Df)} {act:List (Nat)} {b:Int} {a:List Nat}:Cc ds act [] b a=(((Eo (GN a)),0)):=by rw [Cc]
theorem R7 {ds:List (Df)} {act:List (Nat)} {b:Int} {a:List Nat} {es:List (Ex)} (i:Nat) (c:Ex) (hi:es[i]?=some c):Cc ds act (es.drop i) b a=(cond (!(((Aq ds act c)).2)) (([],7)) (cond (Ac ((ds.getD ((Aq ds act c)).1 default))) (Cc ds act (es.drop (i + 1)) b (a++[((Aq ds act c)).1])) (Cc ds act (es.drop (i + 1)) b a))):=by
 have hl:i < es.length:=(List.getElem?_eq_some_iff.1 hi).1
 have he:es[i]=c:=(List.getElem?_eq_some_iff.1 hi).2
 rw [← List.getElem_cons_drop hl,Cc] <;> (try rw [he])
def CI (ds:List (Df)) (act:List (Nat)) (i:Nat):List Nat×Int:=Cc ds act ((BZ [] ((ds.getD i default).body))) 0 ([])
noncomputable def Xz:Code:=Tryz.f58.body.getD .skip
def pO:=AA (An Ae 90 ([.code Xz])) ([.code Xz])
def AAt:=AA (An (GP 53) 90 (AC pO)) (AC pO)
def AAs:=ν (AC (AAt))
def fH:=Ω AAs
def fG:=ν (Ar fH)
def AAr:=AA (An Ae 90 (AD fG)) (AD fG)
def AAq:=ν (AC (AC AAr))
def fF:=Ω AAq
def AF4:=Ξ fF
def AAp:=AA (An Ae 90 (AF fF)) (AF fF)
def ux:=ν (AC (AC AAp))
def fI:=Ω ux
def uw:=AA (An Bp 90 (AD fI)) (AD fI)
def uv:=Ψ fG
def uu:=Ω uv
def AEW:=Ω uu
theorem Sy (t:List UInt8) (t0:Option Addr) (ds:List (Df)) (j:Nat) (z:Option Addr) (act:List (Nat)) (h0 i:Nat) (w:World) (v0:rowsDf w t0 ds) (s2:ds.length≤4294967296) (a1:rowsNat w z act) (k2:act.length≤4294967296) (x:i < ds.length) (z0:∀ i∈act,i < ds.length) (a2:∀ d∈ds,Dm d.body) (hn:∀ d∈ds,nE d.body≤1000000):Calls Tryz.prog 58 ([ψ [η t,τ t0 ds.length j],τ z act.length h0,δ ((i:Int))]:List Value).toArray w fun e w'=>∃ (v1:Option Addr) (u1:Nat),e=.returned (.tuple #[τ v1 ((((CI ds act i)).1).length) u1,δ (((CI ds act i)).2)])∧Below w.heap.size w w'∧Aj w.heap.size w' [BS v1 u1 (((CI ds act i)).1)]:=by
 refine AS (fn:=Tryz.f58) (c:=Xz) (n:=49) ?_
 have K1:=Wk.start w
 obtain ⟨m,o,rfl,w0,x0⟩:=v0.all (by omega)
 have u2:ds[i]?=some (ds.getD i default):=getD_some default x
 obtain ⟨g3,a3,d0,b0,z1,z2,e1⟩:=x0 i _ u2
 refine CY Ae pO [ι w.heap.size [η t,τ (some ⟨m,o,none⟩) ds.length j] 27] K1 [(0,1)] fun w1 K2=>?_
 refine Ay (g:=m) (off:=o) (cap:=j) (sz:=21) (k:=i) (len:=ds.length) (some 16) x Tryz.underlying25 ?_
 refine Ak (GP 53) AAt K2 [] fun w2 K3=>?_
 refine BN 53 m (o + i * 21 + 8) (Γ ((ds.getD i default).body) d0 b0) (some 18) (Q3 (Ag z1 w0 K3.B) 8 _ rfl) ?_
 refine AB AAs K3 [] fun w3 K4=>?_
 have K5:=K4.addNil 53 10 (DE CN w)
 have Kf:=(K5.pickL (L':=[(Fh w none 0 ([]))]++[]) [0] rfl (by decide)).front
 refine BA (args:=[τ none 0 0,ψ ((Γ ((ds.getD i default).body) d0 b0))]) (Wy _ _ none [] 0 ((ds.getD i default).body) d0 b0 w w3 e1 (Nat.le_refl _) (a2 _ (DR x)) (by have:=hn _ (DR x); simp only [List.length_nil]; omega) K5.B Kf) fun en w5 hh=>?_
 obtain ⟨s,l,rfl,b5,Hn⟩:=hh
 refine ⟨_,rfl,?_⟩
 have K6:=Wk.unfront b5 Hn
 have t4:=Q0 ((ds.getD i default).body)
 have q4:=hn _ (DR x)
 refine AB fH K6 [] fun w6 K7=>?_
 have K8:Wk w w6 [ι w.heap.size [η t,τ (some ⟨m,o,none⟩) ds.length j] 27] [(Fh w s l ((BZ [] ((ds.getD i default).body))))] []:=K7.pk [0] [0]
 have K9:=K8.addNil 3 1 (fun e r=>r=Fw e)
 have u:(CI ds act i)=Cc ds act ((BZ [] ((ds.getD i default).body))) 0 ([]):=by unfold CI; rfl
 refine AU [(1,τ z act.length h0),(3,ζ (w.heap.size)),(6,τ none 0 0),(7,δ 0),(8,τ none 0 0),(19,τ s (((BZ [] ((ds.getD i default).body))).length) l),(20,δ ((((BZ [] ((ds.getD i default).body))).length:Int))),(21,δ (((0:Nat):Int)))] fun E7=>?_
 refine Bo (by kernel_rfl) (fun E r1=>∃ (q:Nat) (p:Int) (a:List Nat) (f:Option Addr) (b:Nat) (E0:Nat→Value),q≤((BZ [] ((ds.getD i default).body))).length∧E=BE E0 [(1,τ z act.length h0),(3,ζ (w.heap.size)),(6,τ none 0 0),(7,δ p),(8,τ f a.length b),(19,τ s (((BZ [] ((ds.getD i default).body))).length) l),(20,δ ((((BZ [] ((ds.getD i default).body))).length:Int))),(21,δ ((q:Int)))]∧(CI ds act i)=Cc ds act (List.drop q ((BZ [] ((ds.getD i default).body)))) p a∧a.length≤1 * q + 0∧Wk w r1 [ι w.heap.size [η t,τ (some ⟨m,o,none⟩) ds.length j] 27] [(Fh w s l ((BZ [] ((ds.getD i default).body)))),(BS f b a)] []) (fun E _=>((BZ [] ((ds.getD i default).body))).length - AL (E 21)) ⟨0,0,([]),none,0,E7,Nat.zero_le _,rfl,u,by simp,K9⟩ ?_
 clear u
 rintro E r1 ⟨q,p,a,f,b,E0,v4,rfl,u,x2,t3⟩ y
 refine AB fG t3 [] fun w9 m0=>?_
 refine AG (decide ((q:Int) < (((BZ [] ((ds.getD i default).body))).length:Int))) (fun k1=>?_) (fun k1=>?_)
 ·have g0:q < (BZ [] ((ds.getD i default).body)).length:=by have:=of_decide_eq_true k1; omega
  obtain ⟨v,c2⟩:∃ e,((BZ [] ((ds.getD i default).body)))[q]?=some e:=⟨_,List.getElem?_eq_getElem g0⟩
  rw [R7 q v c2] at u
  obtain ⟨j0,rfl,z3⟩:=m0.H.rowAt (m0.ix 0) (m0.at 0 rfl) (by omega)
  refine Ak Ae AAr m0 [] fun t1 s0=>?_
  refine Ay (g:=j0) (off:=0) (cap:=l) (sz:=10) (k:=q) (len:=((BZ [] ((ds.getD i default).body))).length) (some 23) g0 Tryz.underlying51 ?_
  obtain ⟨r9,r2,v2⟩:=s0.H.cells (fun _ _ h=>ZI h) (s0.ix 0) (s0.at 0 rfl) c2
  obtain ⟨c0,a0,rfl,d1⟩:=mg r2
  refine BN 53 j0 (0 + q * 10) _ (some 24) v2 ?_
  refine Ah AAq [ι w.heap.size [η t,τ (some ⟨m,o,none⟩) ds.length j] 27,ι t1.heap.size ((AX v c0 a0)) 53] s0 [(1,0),(0,0),(1,0)] fun q2 r0=>?_
  refine BA (Ya t (some ⟨m,o,none⟩) ds j z act h0 v c0 a0 q2 (v0.below r0.B) (by first | assumption | omega | (simp <;> omega)) (a1.below r0.B) (by first | assumption | omega | (simp <;> omega)) (d1.below r0.B) z0) fun en p4 hh=>?_
  obtain ⟨rfl,f3⟩:=hh
  refine ⟨_,rfl,?_⟩
  have r3:=r0.below f3
  refine AB fF r3 [] fun n4 i2=>?_
  refine AG (!(((Aq ds act v)).2)) (fun q0=>?_) (fun q0=>?_)
  ·have q3:=i2.addNil 3 1 (fun e r=>r=Fw e)
   refine AB AF4 q3 [] fun k4 p1=>?_
   have hS:(CI ds act i)=([],7):=by rw [u,q0] <;> rfl
   exact AK p1 (0,0) (.tuple #[τ none 0 0,δ 7]) ⟨none,0,by rw [hS] <;> rfl,p1.B,by rw [hS]; exact p1.own0 [2] rfl (by decide)⟩
  have t2:ds[((Aq ds act v)).1]?=some (ds.getD ((Aq ds act v)).1 default):=getD_some default (Jy z0 (by assumption))
  obtain ⟨m1,g1,l1,f1,x1,c1,b1⟩:=x0 ((Aq ds act v)).1 _ t2
  refine Ak Ae AAp i2 [(0,1)] fun h4 h2=>?_
  refine Ay (g:=m) (off:=o) (cap:=j) (sz:=21) (k:=(((Aq ds act v)).1)) (len:=ds.length) (some 37) (Jy z0 (by assumption)) Tryz.underlying25 ?_
  refine BN 59 m (o + ((Aq ds act v)).1 * 21) _ (some 38) (Ag x1 w0 h2.B) ?_
  refine AB ux h2 [] fun p2 o1=>?_
  refine AP o1 (Gx ((ds.getD ((Aq ds act v)).1 default)) m1 g1 l1 f1 p2 (c1.below o1.B) (b1.below o1.B)) fun g4 p3=>?_
  refine AB fI p3 [] fun s1 g2=>?_
  refine AG (Ac ((ds.getD ((Aq ds act v)).1 default))) (fun i1=>?_) (fun i1=>?_)
  ·refine CY Bp uw [ι w.heap.size [η t,τ (some ⟨m,o,none⟩) ds.length j] 27,ι t1.heap.size ((AX v c0 a0)) 53,ι s1.heap.size [δ ((((Aq ds act v)).1:Int))] 3] g2 [] fun f4 l0=>?_
   refine Cw l0.H (l0.ix 1) (l0.at 1 rfl) (((Aq ds act v)).1) [δ ((((Aq ds act v)).1:Int))] rfl (s1.heap.size) (l0.ent 2 (by kernel_rfl)) (CL uw) (by kernel_rfl) (.tmp 40) (.tmp 42) 22 (by kernel_rfl) (by kernel_rfl) (by kernel_rfl) (by decide) (by kernel_rfl) (by kernel_rfl) rfl rfl (by ((try simp only [maxLen,List.length_append,List.length_cons,List.length_nil,List.length_singleton]) <;> omega)) fun q1 h1 e4 Hn e3=>?_
   have o3:=l0.put 1 (by simp) e3 Hn
   refine AB (AZ fH) o3 [] fun o2 n3=>?_
   refine AU [(1,τ z act.length h0),(3,ζ (w.heap.size)),(6,τ none 0 0),(7,δ p),(8,τ q1 ((a++[((Aq ds act v)).1]).length) h1),(19,χ j0 (((BZ [] ((ds.getD i default).body))).length) l),(20,δ ((((BZ [] ((ds.getD i default).body))).length:Int))),(21,δ (IntKind.i64.wrap ((q:Int) + 1)))] fun x3=>?_
   have m3:Wk w o2 [ι w.heap.size [η t,τ (some ⟨m,o,none⟩) ds.length j] 27] [(Fh w (θ j0) l ((BZ [] ((ds.getD i default).body)))),(BS q1 h1 (a++[((Aq ds act v)).1]))] []:=n3.pk [0] [0,1]
   rw [Bl q (by omega)]
   refine y _ _ ⟨q + 1,p,(a++[((Aq ds act v)).1]),q1,h1,x3,g0,rfl,by rw [u,q0,i1] <;> rfl,by ((try simp only [maxLen,List.length_append,List.length_cons,List.length_nil,List.length_singleton]) <;> omega),m3⟩ ?_
   show ((BZ [] ((ds.getD i default).body))).length - AL (δ ((q + 1:Nat):Int)) < ((BZ [] ((ds.getD i default).body))).length - AL (δ (q:Int))
   simp only [AL]
   omega
  refine AB (AZ fH) g2 [] fun n2 l3=>?_
  refine AU [(1,τ z act.length h0),(3,ζ (w.heap.size)),(6,τ none 0 0),(7,δ p),(8,τ f a.length b),(19,χ j0 (((BZ [] ((ds.getD i default).body))).length) l),(20,δ ((((BZ [] ((ds.getD i default).body))).length:Int))),(21,δ (IntKind.i64.wrap ((q:Int) + 1)))] fun v3=>?_
  have k3:Wk w n2 [ι w.heap.size [η t,τ (some ⟨m,o,none⟩) ds.length j] 27] [(Fh w (θ j0) l ((BZ [] ((ds.getD i default).body)))),(BS f b a)] []:=l3.pk [0] [0,1]
  rw [Bl q (by omega)]
  refine y _ _ ⟨q + 1,p,a,f,b,v3,g0,rfl,by rw [u,q0,i1] <;> rfl,by ((try simp only [maxLen,List.length_append,List.length_cons,List.length_nil,List.length_singleton]) <;> omega),k3⟩ ?_
  show ((BZ [] ((ds.getD i default).body))).length - AL (δ ((q + 1:Nat):Int)) < ((BZ [] ((ds.getD i default).body))).length - AL (δ (q:Int))
  simp only [AL]
  omega
 have b2:q=(BZ [] ((ds.getD i default).body)).length:=by have:=of_decide_eq_false k1; omega
 rw [b2,List.drop_length,TL] at u
 refine AB uv m0 [] fun m2 e2=>?_
 have Kf:=(e2.pickL (L':=[(BS f b a)]++[(Fh w s l ((BZ [] ((ds.getD i default).body))))]) [1,0] rfl (by decide)).front
 refine BA (args:=[τ f a.length b]) (pf _ f a b w m2 (by omega) e2.B Kf) fun en c4 hh=>?_
 obtain ⟨rfl,c3,Hn⟩:=hh
 refine ⟨_,rfl,?_⟩
 have i3:=Wk.unfront c3 Hn
 refine AB uu i3 [] fun l2 d2=>?_
 have Kf:=(d2.pickL (L':=[(BS f b (GN a))]++[(Fh w s l ((BZ [] ((ds.getD i default).body))))]) [0,1] rfl (by decide)).front
 refine BA (args:=[τ f a.length b]) (Yj _ f (GN a) b w l2 (by simp only [LI]; omega) (LI _) d2.B Kf) fun en b4 hh=>?_
 obtain ⟨p0,k0,rfl,b3,Hn⟩:=hh
 refine ⟨_,rfl,?_⟩
 have h3:=Wk.unfront b3 Hn
 refine AB AEW h3 [] fun a4 n1=>?_
 have hS:(CI ds act i)=((Eo (GN a)),0):=by rw [u] <;> rfl
 exact AK n1 (0,0) (.tuple #[τ p0 (((Eo (GN a))).length) k0,δ 0]) ⟨p0,k0,by rw [hS] <;> rfl,n1.B,by rw [hS]; exact n1.own0 [0] rfl (by decide)⟩
end
end Go.Proofs.YtkjbdagicjbjjaaGreat

/- Contracts of functions, part 38. -/
import Derived.Test.YtkjbdagicjbjjaaGreatTs37
set_option linter.all false
namespace Go.Proofs.YtkjbdagicjbjjaaGreat
noncomputable section
open Go.RowKit
set_option maxRecDepth 100000
set_option maxHeartbeats 1000000
def fx (ins:List (List UInt8×Bool)) (u:DP):Bool:=cond (cond (u.1.1 == 20) true (u.1.1 == 21)) true (cond (u.1.1 == 3) ((AH ins u.1.2.1).getD false) false)
def IL (ins:List (List UInt8×Bool)):List DP→List (Ao×Bool)→List DP→List (Ao×Bool)×List DP
 | [],sn,a=>(sn,a)
 | u :: r,sn,a=>cond (cond (fx ins u) (!((AH sn u.1).getD false)) false) (IL ins r ((u.1,true) :: sn) (a++[u])) (IL ins r sn a)
def JN (ins:List (List UInt8×Bool)):List C4→List (Ao×Bool)→List DP→List DP
 | [],_,a=>a
 | e :: r,sn,a=>JN ins r (IL ins e.2.2.1 sn a).1 (IL ins e.2.2.1 sn a).2
def IC (n:List UInt8) (ds:List Df) (day:Int) (h:Nat) (l:List C4):List DP:=cond (!(Ha n ds day h l)) [] (JN (Ap n ds day).1 l [] [])
attribute [local irreducible] BD BP AC AD AF Ar AZ AM Aw Bk C6 BV EE C5 BO At Fr
noncomputable def aC:Code:=Tryz.f29.body.getD .skip
def sr:=ν [.code aC]
def QW:=Ω sr
def ADP:=Ξ QW
def cq:=AA (An (ES) 90 (AF QW)) (AF QW)
def cp:=Ω cq
def Tz:=ν (Ar cp)
def sq:=AA (An (Ae) 90 (AD Tz)) (AD Tz)
def Tx:=ν (AC (AC sq))
def co:=ν (Ar Tx)
def so:=AA (An (Ae) 90 (AD co)) (AD co)
def j1:=Al 12 (AC (AC so))
def jz:=Al 13 (AM j1)
def jy:=AI jz
def Ve:=Ξ jy
def QV:=AA (An (Eh) 90 (AC Ve)) (AC Ve)
def jx:=AA (An (Bp) 90 (AC QV)) (AC QV)
def yP:=Ψ Tz
theorem mX (b:List UInt8) (m:Option Addr) (ds:List Df) (h:Nat) (day:Int) (f:Nat) (A:Option Addr) (l:List C4) (c:Nat) (w:World) (d1:rowsDf w m ds) (k0:ds.length≤1000000000) (z0:ds.length≤h) (hs:b.length≤4294967296) (ht:∀ d∈ds,Fc d) (w0:∀ d∈ds,Dm d.body) (hn:∀ d∈ds,nE d.body≤1000000) (n1:∀ d∈ds,Ac d=true→Fy f d.body) (hA:rowsSt w A l) (i0:JH l) :
  Calls Tryz.prog 29 ([ψ [η b,τ m ds.length h],δ day,τ A l.length c]:List Value).toArray w fun e w'=>∃ rA rc,e=.returned (τ rA (IC b ds day f l).length rc)∧Below w.heap.size w w'∧Aj w.heap.size w' [CH rA rc (IC b ds day f l)]:=by
 refine AS (fn:=Tryz.f29) (c:=aC) (n:=77) ?_
 have hv:(IC b ds day f l)=cond (!(Ha b ds day f l)) [] (JN (Ap b ds day).1 l [] []):=rfl
 have K0:=Wk.start w
 refine Ah sr [ι w.heap.size [η b,τ m ds.length h] 27] K0 [(0,0)] fun w1 K1=>?_
 refine BA (NJ b m ds h day f A l c w1 (d1.below K1.B) k0 z0 hs ht w0 hn n1 (hA.below K1.B) i0) fun en w2 hh=>?_
 rcases hh with ⟨hb,rfl,s⟩ | ⟨oA,oc,b1,s,b3,sx,hb,rfl,bw,Hn⟩ <;> rw [hb] at hv
 ·refine ⟨_,rfl,?_⟩
  replace hv:(IC b ds day f l)=[]:=hv
  refine Ah QW [ι w.heap.size [η b,τ m ds.length h] 27,ι w2.heap.size ((CU none 0 0 none 0 0 none none none)) 72] (K1.below s) [(1,0)] fun w3 K3=>?_
  refine AG true (fun _=>?_) (fun h0=>by cases h0)
  refine AB ADP K3 [] fun w4 K4=>?_
  refine AK K4 (0,0) (τ none 0 0) ⟨none,0,by rw [hv]; rfl,K4.B,?_⟩
  rw [hv]
  exact (K4.own0 (L':=[]) [] rfl (by decide)).addNil 94 7 (fun e r=>r=Ch e)
 refine ⟨_,rfl,?_⟩
 replace hv:(IC b ds day f l)=JN (Ap b ds day).1 l [] []:=hv
 have K2:=K1.join bw Hn
 generalize hws:w2=ws at K2 ⊢
 clear Hn bw
 refine Ah QW [ι w.heap.size [η b,τ m ds.length h] 27,ι ws.heap.size ((CU m ds.length h oA (Ad b ds day).1.length oc (some b1) (some s) (some b3))) 72] K2 [(1,0)] fun w3 K3=>?_
 refine AG false (fun h0=>by cases h0) (fun _=>?_)
 refine Ak ES cq K3 [] fun w4 K4=>?_
 refine FV XD K4.H (CL cq) (by kernel_rfl) (t:=115) (by kernel_rfl) fun w5 _ Hn b5=>?_
 have K5:=(K4.add b5 Hn).addNil 94 7 (fun (e:DP) r=>r=Ch e)
 generalize w4.heap.size=mb at K5 ⊢
 refine AB cp K5 [] fun w6 K6=>?_
 replace K6:Wk w w6 [ι w.heap.size [η b,τ m ds.length h] 27,ι ws.heap.size ((CU m ds.length h oA (Ad b ds day).1.length oc (some b1) (some s) (some b3))) 72] [BS oA oc (Ad b ds day).1,GU.th b1 (Ap b ds day).1,FX.th s (Ap b ds day).2.1,Eg.th b3 (sx.map fun q=>(q.1,FI q.2)),XD.th mb ([]:List (Ao×Bool)),CH none 0 ([]:List DP)] []:=K6
 refine AU [(7,ζ (ws.heap.size)),(9,τ none ([]:List DP).length 0),(10,.map (some mb)),(26,τ A l.length c),(27,δ (l.length:Int)),(28,δ ((0:Nat):Int))] fun E6=>?_
 refine Bo (by kernel_rfl) (fun E wx=>∃ (i:Nat) (o:List (Ao×Bool)) (a:List DP) (fA:Option Addr) (fc:Nat) (E0:Nat→Value),i≤l.length∧E=BE E0 [(7,ζ (ws.heap.size)),(9,τ fA a.length fc),(10,.map (some mb)),(26,τ A l.length c),(27,δ (l.length:Int)),(28,δ (i:Int))]∧(IC b ds day f l)=JN (Ap b ds day).1 (l.drop i) o a∧o.length≤i * 10000000∧a.length≤i * 10000000∧Wk w wx [ι w.heap.size [η b,τ m ds.length h] 27,ι ws.heap.size ((CU m ds.length h oA (Ad b ds day).1.length oc (some b1) (some s) (some b3))) 72] [BS oA oc (Ad b ds day).1,GU.th b1 (Ap b ds day).1,FX.th s (Ap b ds day).2.1,Eg.th b3 (sx.map fun q=>(q.1,FI q.2)),XD.th mb o,CH fA fc a] []) (fun E _=>l.length - AL (E 28)) ⟨0,[],[],none,0,E6,Nat.zero_le _,rfl,by rw [List.drop_zero]; exact hv,by simp,by simp,K6⟩ ?_
 clear K6 K5 K4 K3 K2 K1 K0 hv Hn b5
 rintro E wx ⟨i,o,a,qA,qc,E0,hi,rfl,hv,j0,p0,K1⟩ q0
 have i2:=i0.1
 refine AB Tz K1 [] fun w2 K2=>?_
 refine AG (decide ((i:Int) < (l.length:Int))) (fun c2=>?_) (fun c2=>?_)
 ·have e0:i < l.length:=by have:=of_decide_eq_true c2; omega
  obtain ⟨e,he⟩:∃ e,l[i]?=some e:=⟨_,List.getElem?_eq_getElem e0⟩
  have q1:l.drop i=e :: l.drop (i + 1):=by
   have he:l[i]=e:=(List.getElem?_eq_some_iff.1 he).2
   rw [← List.getElem_cons_drop e0,he]
  rw [q1,JN] at hv
  obtain ⟨l2,o1,x0⟩:=i0.2 e (List.mem_of_getElem? he)
  obtain ⟨gA,fA,rfl,m1,a1⟩:=hA.all (by omega)
  obtain ⟨A1,c1,v0,hU⟩:=a1 i e he
  refine Ak Ae sq K2 [] fun w3 K3=>?_
  refine Ay (g:=gA) (off:=fA) (cap:=c) (sz:=5) (k:=i) (len:=l.length) (some 30) e0 Tryz.underlying29 ?_
  refine BN 44 gA (fA + i * 5) _ (some 31) (Ag v0 m1 K3.B) ?_
  refine Ah Tx [ι w.heap.size [η b,τ m ds.length h] 27,ι ws.heap.size ((CU m ds.length h oA (Ad b ds day).1.length oc (some b1) (some s) (some b3))) 72,ι w3.heap.size (Dp (e,A1,c1)) 44] K3 [(2,0),(2,2)] fun w4 K4=>?_
  generalize hus:e.2.2.1=us at hv o1 x0 hU
  refine AU [(7,ζ (ws.heap.size)),(9,τ qA a.length qc),(10,.map (some mb)),(26,τ (some ⟨gA,fA,none⟩) l.length c),(27,δ (l.length:Int)),(28,δ (i:Int)),(33,τ A1 e.2.2.1.length c1),(34,δ (e.2.2.1.length:Int)),(35,δ ((0:Nat):Int))] fun E4=>?_
  rw [hus]
  refine Bo (by kernel_rfl) (fun E wx=>∃ (j:Nat) (o:List (Ao×Bool)) (a:List DP) (qA:Option Addr) (qc:Nat) (E0:Nat→Value),j≤us.length∧E=BE E0 [(7,ζ (ws.heap.size)),(9,τ qA a.length qc),(10,.map (some mb)),(26,τ (some ⟨gA,fA,none⟩) l.length c),(27,δ (l.length:Int)),(28,δ (i:Int)),(33,τ A1 us.length c1),(34,δ (us.length:Int)),(35,δ (j:Int))]∧(IC b ds day f l)=JN (Ap b ds day).1 (l.drop (i + 1)) (IL (Ap b ds day).1 (us.drop j) o a).1 (IL (Ap b ds day).1 (us.drop j) o a).2∧o.length≤i * 10000000 + j∧a.length≤i * 10000000 + j∧Wk w wx [ι w.heap.size [η b,τ m ds.length h] 27,ι ws.heap.size ((CU m ds.length h oA (Ad b ds day).1.length oc (some b1) (some s) (some b3))) 72] [BS oA oc (Ad b ds day).1,GU.th b1 (Ap b ds day).1,FX.th s (Ap b ds day).2.1,Eg.th b3 (sx.map fun q=>(q.1,FI q.2)),XD.th mb o,CH qA qc a] []) (fun E _=>us.length - AL (E 35)) ⟨0,o,a,qA,qc,E4,Nat.zero_le _,rfl,by rw [List.drop_zero]; exact hv,by rw [Nat.add_zero]; exact j0,by rw [Nat.add_zero]; exact p0,K4.pk [0,1] [0,1,2,3,4,5]⟩ ?_
  clear K1 K2 K3 K4 hv j0 p0 v0 hus
  rintro E wx ⟨j,o,a,qA,qc,E0,hj,rfl,hv,j0,p0,K1⟩ v
  refine AB co K1 [] fun w6 K6=>?_
  refine AG (decide ((j:Int) < (us.length:Int))) (fun c3=>?_) (fun c3=>?_)
  ·have p:j < us.length:=by have:=of_decide_eq_true c3; omega
   obtain ⟨u,hu⟩:∃ e,us[j]?=some e:=⟨_,List.getElem?_eq_getElem p⟩
   have p1:us.drop j=u :: us.drop (j + 1):=by
    have he:us[j]=u:=(List.getElem?_eq_some_iff.1 hu).2
    rw [← List.getElem_cons_drop p,he]
   rw [p1,IL] at hv
   have g0:=x0 u (List.mem_of_getElem? hu)
   obtain ⟨gU,fU,rfl,l1,m0⟩:=hU.all (by omega)
   refine Ak Ae so K6 [] fun w7 K7=>?_
   refine Ay (g:=gU) (off:=fU) (cap:=c1) (sz:=7) (k:=j) (len:=us.length) (some 37) p Tryz.underlying42 ?_
   refine BN 94 gU (fU + j * 7) (Ch u) (some 38) (Ag (m0 j u hu) l1 K7.B) ?_
   refine CC 12 j1 [ι w.heap.size [η b,τ m ds.length h] 27,ι ws.heap.size ((CU m ds.length h oA (Ad b ds day).1.length oc (some b1) (some s) (some b3))) 72,ι w7.heap.size (Ch u) 94] K7 [(2,0)] fun w8 K8=>?_
   refine Av K8 (mem:=[ι w.heap.size [η b,τ m ds.length h] 27,ι ws.heap.size ((CU m ds.length h oA (Ad b ds day).1.length oc (some b1) (some s) (some b3))) 72,ι w7.heap.size (Ch u) 94]) [(1,2,0),(5,2,0),(10,2,0),(14,1,2),(16,2,1)] [⟨17,[(53,.map (some b1)),(55,η (u.1.2.1))],ξ ((AH (Ap b ds day).1 u.1.2.1).getD false),(u.1.1 == 3) && ((!(cond (u.1.1 == 20) true (u.1.1 == 21))) && true)⟩] (fun e' l0=>K8.G e' l0) (fun sp d0=>?_) fun w9 E9 K9=>?_
   ·rw [List.mem_singleton.1 d0]
    exact BQ fun _ E y hy=>F7 GU (x:=.tmp 53) (y:=.tmp 55) (by kernel_rfl) rfl (by kernel_rfl) u.1.2.1 (by kernel_rfl) g0.2.1 (Bc.below (S:=GU) (K8.H.all (K8.ix 1) _ (K8.at 1 rfl)) hy)
   refine As 13 jz K9 [] fun h2 c0=>?_
   refine Av c0 (mem:=[ι w.heap.size [η b,τ m ds.length h] 27,ι ws.heap.size ((CU m ds.length h oA (Ad b ds day).1.length oc (some b1) (some s) (some b3))) 72,ι w7.heap.size (Ch u) 94]) [(3,2,0)] [⟨4,[(62,ψ (Ch u))],ψ (D1 u.1),(fx (Ap b ds day).1 u) && true⟩,⟨5,[(61,.map (some mb)),(63,ψ (D1 u.1))],ξ ((AH o u.1).getD false),(fx (Ap b ds day).1 u) && true⟩] (fun e' l0=>c0.G e' l0) (fun sp d0=>?_) fun g2 m2 x1=>?_
   ·simp only [List.mem_cons,List.not_mem_nil,or_false] at d0
    rcases d0 with rfl | rfl
    ·exact AY 42 [.tmp 62] _ (fun _=>by kernel_rfl) fun hc y hy=>AQ hy (G4 u y)
    exact BQ fun _ E y hy=>F7 XD (x:=.tmp 61) (y:=.tmp 63) (by kernel_rfl) rfl (by kernel_rfl) u.1 (by kernel_rfl) g0 (Bc.below (S:=XD) (c0.H.all (c0.ix 4) _ (c0.at 4 rfl)) hy)
   refine AB jy x1 [] fun e2 e1=>?_
   refine AG (cond (fx (Ap b ds day).1 u) (!((AH o u.1).getD false)) false) (fun c4=>?_) (fun c4=>?_) <;> rw [c4] at hv
   ·replace hv:(IC b ds day f l)=JN (Ap b ds day).1 (l.drop (i + 1)) (IL (Ap b ds day).1 (us.drop (j + 1)) ((u.1,true) :: o) (a++[u])).1 (IL (Ap b ds day).1 (us.drop (j + 1)) ((u.1,true) :: o) (a++[u])).2:=hv
    refine AB Ve e1 [(2,0)] fun h1 v1=>?_
    refine AP v1 (args:=[ψ (Ch u)]) (G4 u h1) fun g1 a0=>?_
    refine Ak Eh QV a0 [] fun g1 a0=>?_
    refine GC XD a0.H (a0.ix 4) (a0.at 4 rfl) u.1 true g0 trivial (CL QV) (by kernel_rfl) (t:=115) (x:=.tmp 67) (y:=.tmp 69) (z:=.const (ξ true)) (by kernel_rfl) rfl (by kernel_rfl) (by kernel_rfl) (by kernel_rfl) (by omega) fun t0 Hn s1=>?_
    have u1:=a0.put 4 (by simp) s1 Hn
    refine CY Bp jx [ι w.heap.size [η b,τ m ds.length h] 27,ι ws.heap.size ((CU m ds.length h oA (Ad b ds day).1.length oc (some b1) (some s) (some b3))) 72,ι w7.heap.size (Ch u) 94,ι t0.heap.size (Ch u) 94] u1 [(2,0)] fun d2 b0=>?_
    refine Cw b0.H (b0.ix 5) (b0.at 5 rfl) u (Ch u) rfl (t0.heap.size) (b0.ent 3 (by kernel_rfl)) (CL jx) (by kernel_rfl) (.tmp 70) (.tmp 72) 42 (by kernel_rfl) (by kernel_rfl) (by kernel_rfl) (by decide) (by kernel_rfl) (by kernel_rfl) rfl rfl (by omega) fun A2 k2 a2 z1 r1=>?_
    have t1:=b0.put 5 (by simp) r1 z1
    refine AB (AZ Tx) t1 [] fun f1 r0=>?_
    refine AU [(7,ζ (ws.heap.size)),(9,τ A2 (a++[u]).length k2),(10,.map (some mb)),(26,τ (some ⟨gA,fA,none⟩) l.length c),(27,δ (l.length:Int)),(28,δ (i:Int)),(33,τ (some ⟨gU,fU,none⟩) us.length c1),(34,δ (us.length:Int)),(35,δ (IntKind.i64.wrap ((j:Int) + 1)))] fun s0=>?_
    rw [Bl j (by omega)]
    refine v _ _ ⟨j + 1,(u.1,true) :: o,a++[u],A2,k2,s0,p,rfl,hv,by rw [List.length_cons]; omega,by rw [List.length_append,List.length_singleton]; omega,r0.pk [0,1] [0,1,2,3,4,5]⟩ ?_
    show us.length - AL (δ ((j + 1:Nat):Int)) < us.length - AL (δ (j:Int))
    simp only [AL]
    omega
   replace hv:(IC b ds day f l)=JN (Ap b ds day).1 (l.drop (i + 1)) (IL (Ap b ds day).1 (us.drop (j + 1)) o a).1 (IL (Ap b ds day).1 (us.drop (j + 1)) o a).2:=hv
   refine AB (AZ Tx) e1 [] fun f1 r0=>?_
   refine AU [(7,ζ (ws.heap.size)),(9,τ qA a.length qc),(10,.map (some mb)),(26,τ (some ⟨gA,fA,none⟩) l.length c),(27,δ (l.length:Int)),(28,δ (i:Int)),(33,τ (some ⟨gU,fU,none⟩) us.length c1),(34,δ (us.length:Int)),(35,δ (IntKind.i64.wrap ((j:Int) + 1)))] fun s0=>?_
   rw [Bl j (by omega)]
   refine v _ _ ⟨j + 1,o,a,qA,qc,s0,p,rfl,hv,by omega,by omega,r0.pk [0,1] [0,1,2,3,4,5]⟩ ?_
   show us.length - AL (δ ((j + 1:Nat):Int)) < us.length - AL (δ (j:Int))
   simp only [AL]
   omega
  have i1:j=us.length:=by have:=of_decide_eq_false c3; omega
  rw [i1,List.drop_length,IL] at hv
  refine AB (AZ cp) K6 [] fun w7 K7=>?_
  refine AU [(7,ζ (ws.heap.size)),(9,τ qA a.length qc),(10,.map (some mb)),(26,τ (some ⟨gA,fA,none⟩) l.length c),(27,δ (l.length:Int)),(28,δ (IntKind.i64.wrap ((i:Int) + 1)))] fun E7=>?_
  rw [Bl i (by omega)]
  refine q0 _ _ ⟨i + 1,o,a,qA,qc,E7,e0,rfl,hv,by omega,by omega,K7⟩ ?_
  show l.length - AL (δ ((i + 1:Nat):Int)) < l.length - AL (δ (i:Int))
  simp only [AL]
  omega
 have k1:i=l.length:=by have:=of_decide_eq_false c2; omega
 rw [k1,List.drop_length,JN] at hv
 refine AB yP K2 [] fun w3 K3=>?_
 refine AK K3 (0,0) (τ qA a.length qc) ⟨qA,qc,by rw [hv],K3.B,?_⟩
 rw [hv]
 exact K3.own0 (L':=[CH qA qc a]) [5] rfl (by decide)
end
end Go.Proofs.YtkjbdagicjbjjaaGreat
namespace Go.Proofs.YtkjbdagicjbjjaaGreat
open Go.RowKit
set_option maxRecDepth 100000
theorem PT {α:Type} (l:List α):l <+: l:=⟨[],by simp⟩
theorem bz {x:Int} (h:(!(x == 0))=false):x=0:=by simpa using h
theorem bn {x:Int} (h:(!(x == 0))=true):x≠0:=by simpa using h
def iT (φ:Ex→Cq→C0) (r:List Ex) (s0 s:Cq):C0:=match r with
 | k2 :: _=>φ k2 s0
 | []=>((0,0,1),s)
def YH (ds:List Df) (sc:List (List UInt8×List Gd)) (pa:List Dk) (h:Nat) (O:List Nat) (e:C4):Prop:=∃ i∈O,∃ nm,(BJ (Bm false [] nm sc pa) h (ds.getD i default) ([],[])).1.2.2=0∧
 e=((ds.getD i default).name,(ds.getD i default).frm,(BJ (Bm false [] nm sc pa) h (ds.getD i default) ([],[])).2.2,(BJ (Bm false [] nm sc pa) h (ds.getD i default) ([],[])).1.1,(BJ (Bm false [] nm sc pa) h (ds.getD i default) ([],[])).1.2.1)
theorem Pt {ds:List Df} {sc:List (List UInt8×List Gd)} {pa:List Dk} {h:Nat} {fnd:List (Nat×Bool)} {O:List Nat}:∀ (r:List Nat) (nm:List (List UInt8×Int×Int)) (a:List C4),(∀ i∈r,i∈O)→(∀ e∈a,YH ds sc pa h O e)→∀ e∈(Dv ds sc pa h fnd r nm a).1,YH ds sc pa h O e
 | [],_,_,_,ha=>ha
 | i :: r,nm,a,hr,ha=>by
  rw [Dv]
  have hr':∀ j∈r,j∈O:=fun j hj=>hr j (by simp [hj])
  cases !((AH fnd i).getD false)
  ·simp only [cond_false]
   cases hc:!((BJ (Bm false [] nm sc pa) h (ds.getD i default) ([],[])).1.2.2 == 0)
   ·refine Pt r _ _ hr' fun e he=>?_
    rcases List.mem_append.1 he with he | he
    ·exact ha e he
    rw [List.mem_singleton.1 he]
    exact ⟨i,hr i (by simp),nm,by simpa using hc,rfl⟩
   exact fun e he=>by cases he
  exact Pt r nm a hr' ha
theorem Ps {ds:List Df} {sc:List (List UInt8×List Gd)} {pa:List Dk} {h:Nat} {fnd:List (Nat×Bool)}:∀ (r:List Nat) (nm:List (List UInt8×Int×Int)) (a:List C4),(Dv ds sc pa h fnd r nm a).2=0→(a≠[]∨∃ i∈r,(AH fnd i).getD false=true)→(Dv ds sc pa h fnd r nm a).1≠[]
 | [],_,a,_,h0=>by
  rcases h0 with h0 | ⟨i,hi,_⟩
  ·exact h0
  cases hi
 | i :: r,nm,a,he,h0=>by
  rw [Dv] at he ⊢
  cases hc:!((AH fnd i).getD false)
  ·rw [hc] at he
   simp only [cond_false] at he ⊢
   cases hc2:!((BJ (Bm false [] nm sc pa) h (ds.getD i default) ([],[])).1.2.2 == 0)
   ·rw [hc2] at he
    exact Ps r _ _ he (.inl (by simp))
   rw [hc2] at he
   simp only [cond_true] at he
   rw [he] at hc2
   cases hc2
  rw [hc] at he
  refine Ps r nm a he ?_
  rcases h0 with h0 | ⟨j,hj,hj2⟩
  ·exact .inl h0
  rcases List.mem_cons.1 hj with rfl | hj
  ·rw [hj2] at hc; cases hc
  exact .inr ⟨j,hj,hj2⟩
theorem SH {F:Df→Bool} {l:List Df} {x:Df} (hx:x∈l) (hF:F x=true):DL F l=true:=by
 have key:∀ (es:List Df) (i:Nat) (a:Int),x∈es→0≤Co F es i a:=by
  intro es
  induction es with
  | nil=>intro i a h; cases h
  | cons e es ih=>
   intro i a h
   rw [Co]
   cases hc:F e
   ·rcases List.mem_cons.1 h with rfl | h
    ·rw [hF] at hc; cases hc
    exact ih (i + 1) a h
   show (0:Int)≤(i:Int)
   omega
 exact decide_eq_true (key l 0 0 hx)
theorem Jm (ds:List Df):∀ (es:List Df) (i:Nat) (a:List (Int×Int)),a.length≤(CF ds es i a).1.length
 | [],_,_=>by rw [CF]; exact Nat.le_refl _
 | e :: es,i,a=>by
  have app:∀ v:Int×Int,a.length≤(CF ds es (i + 1) (a++[v])).1.length:=fun v=>Nat.le_trans (by simp) (Jm ds es (i + 1) (a++[v]))
  have same:=Jm ds es (i + 1) a
  rw [CF]
  cases DL (fun x=>Eb x e) (ds.take i)
  ·simp only [cond_false]
   cases e.kind == 5
   ·simp only [cond_false]
    cases (cond (e.kind == 3) (true) (e.kind == 4))
    ·exact same
    simp only [cond_true]
    cases !(Cz e (((AW ds)).1) (((AW ds)).2.1) (((AW ds)).2.2) == 0)
    ·exact same
    exact app _
   simp only [cond_true]
   cases !((Cp e (((AW ds)).1)) == 0)
   ·exact same
   exact app _
  exact app _
theorem N3 (ds:List Df):∀ (es:List Df) (i:Nat),(CF ds es i []).1.length=0→∀ (j:Nat) e,es[j]?=some e→DL (fun x=>Eb x e) (ds.take (i + j))=false
 | [],_,_,_,_,he=>by simp at he
 | e :: es,i,h,j,e',he=>by
  rw [CF] at h
  have bad:∀ v:Int×Int,(CF ds es (i + 1) ([]++[v])).1.length=0→False:=fun v h=>by
   have:=Jm ds es (i + 1) ([]++[v])
   rw [h] at this
   simp at this
  cases hc:DL (fun x=>Eb x e) (ds.take i)
  ·rw [hc] at h
   simp only [cond_false] at h
   have hrest:(CF ds es (i + 1) []).1.length=0:=by
    revert h
    cases e.kind == 5
    ·simp only [cond_false]
     cases (cond (e.kind == 3) (true) (e.kind == 4))
     ·exact id
     simp only [cond_true]
     cases !(Cz e (((AW ds)).1) (((AW ds)).2.1) (((AW ds)).2.2) == 0)
     ·exact id
     exact fun h=>(bad _ h).elim
    simp only [cond_true]
    cases !((Cp e (((AW ds)).1)) == 0)
    ·exact id
    exact fun h=>(bad _ h).elim
   cases j with
   | zero=>
    obtain rfl:=Option.some.inj (show some e=some e' from he)
    exact hc
   | succ j=>
    have:=N3 ds es (i + 1) hrest j e' (by simpa using he)
    rwa [show i + 1 + j=i + (j + 1) by omega] at this
  rw [hc] at h
  exact (bad _ h).elim
def GJ (ds:List Df) (day:Int) (i:Nat):Bool:=cond (cond ((ds.getD i default).kind == 1) (true) ((ds.getD i default).kind == 5)) (true) (cond (decide ((ds.getD i default).frm≤day)) (!(Cr ds day i)) (false))
theorem Iw {ds:List Df} {day:Int}:∀ (es:List Df) (i:Nat) (a:List Nat),es=ds.drop i→(∀ x∈a,GJ ds day x=true)→∀ x∈Ck ds day es i a,GJ ds day x=true
 | [],_,_,_,h=>by rw [Ck]; exact h
 | e :: es,i,a,he,h=>by
  have hlt:i < ds.length:=by
   have:=congrArg List.length he
   rw [List.length_cons,List.length_drop] at this
   omega
  have hdr:=List.getElem_cons_drop hlt
  rw [← he] at hdr
  obtain ⟨h1,h2⟩:=List.cons.inj hdr
  have hd:ds.getD i default=e:=by
   rw [List.getD_eq_getElem?_getD,List.getElem?_eq_getElem hlt,h1]; rfl
  rw [Ck]
  have hac:GJ ds day i=cond (cond (e.kind == 1) (true) (e.kind == 5)) (true) (cond (decide (e.frm≤day)) (!(Cr ds day i)) (false)):=by unfold GJ; rw [hd]
  cases hc:cond (cond (e.kind == 1) (true) (e.kind == 5)) (true) (cond (decide (e.frm≤day)) (!(Cr ds day i)) (false))
  ·exact Iw es (i + 1) a h2.symm h
  refine Iw es (i + 1) (a++[i]) h2.symm fun x hx=>?_
  rcases List.mem_append.1 hx with hx | hx
  ·exact h x hx
  rw [List.mem_singleton.1 hx,hac,hc]
theorem PG {n:List UInt8} {ds:List Df} {day:Int} {i:Nat} (h:i∈Ct n ds day):GJ ds day i=true:=by
 unfold Ct at h
 revert h
 cases !(C7 n ds day == 0)
 ·exact fun h=>Iw ds 0 [] (by simp) (fun x hx=>by cases hx) i h
 intro h; cases h
theorem La {ds:List Df} {day:Int} {i:Nat} {x:Df} (hk:x.kind=(ds.getD i default).kind) (hn:x.name=(ds.getD i default).name) (hd:x.frm≤day) (hf:(ds.getD i default).frm < x.frm):∀ (es:List Df) (i0:Nat) (a:Bool),x∈es→BG ds day i es i0 a=true
 | [],_,_,h=>by cases h
 | e :: es,i0,a,h=>by
  rw [BG]
  rcases List.mem_cons.1 h with rfl | h
  ·rw [show (x.kind == (ds.getD i default).kind)=true from beq_iff_eq.2 hk,decide_eq_true hn,decide_eq_false (by omega:¬ day < x.frm),decide_eq_true hf]
   rfl
  have ih:=La hk hn hd hf es (i0 + 1) a h
  cases (cond (cond (!(e.kind == (ds.getD i default).kind)) (true) (!(decide (e.name=(ds.getD i default).name)))) (true) (decide (day < e.frm)))
  ·simp only [cond_false]
   cases (cond (decide ((ds.getD i default).frm < e.frm)) (true) (cond (e.frm == (ds.getD i default).frm) (decide ((i0:Int) < (i:Int))) (false)))
   ·exact ih
   rfl
  exact ih
theorem LS {d:Df} (h:Ac d=true):d.kind=3∨d.kind=4:=by
 unfold Ac at h
 cases hc:d.kind == 3
 ·rw [hc] at h; exact .inr (eq_of_beq h)
 exact .inl (eq_of_beq hc)
theorem YG {ds:List Df} {day:Int} {i:Nat} (ha:GJ ds day i=true) (hc:Ac (ds.getD i default)=true):(ds.getD i default).frm≤day∧Cr ds day i=false:=by
 have hk:=LS hc
 unfold GJ at ha
 rw [show ((ds.getD i default).kind == 1)=false by rcases hk with hk | hk <;> rw [hk] <;> rfl,show ((ds.getD i default).kind == 5)=false by rcases hk with hk | hk <;> rw [hk] <;> rfl] at ha
 replace ha:cond (decide ((ds.getD i default).frm≤day)) (!(Cr ds day i)) false=true:=ha
 cases h1:decide ((ds.getD i default).frm≤day)
 ·rw [h1] at ha; cases ha
 rw [h1] at ha
 exact ⟨of_decide_eq_true h1,by simpa using ha⟩
theorem gg {a b:Df} (hc:EZ a b=false) (hn:a.name=b.name) (ha:Ac a=true) (hb:Ac b=true):a.kind=b.kind∧a.frm≠b.frm:=by
 have h1:=LS ha
 have h2:=LS hb
 unfold EZ at hc
 rw [decide_eq_true hn,show (a.kind == 5)=false by rcases h1 with h | h <;> rw [h] <;> rfl,show (b.kind == 5)=false by rcases h2 with h | h <;> rw [h] <;> rfl,show (a.kind == 1)=false by rcases h1 with h | h <;> rw [h] <;> rfl] at hc
 simp only [Bool.not_true,cond_false] at hc
 cases hk:a.kind == b.kind
 ·rw [hk] at hc; cases hc
 rw [hk] at hc
 simp only [Bool.not_true,cond_false] at hc
 refine ⟨eq_of_beq hk,fun hf=>?_⟩
 rw [show (a.frm == b.frm)=true from beq_iff_eq.2 hf] at hc
 revert hc
 cases (!((((Ai a.kind a.tb a.tm a.th a.td).1) == ((Ai b.kind b.tb b.tm b.th b.td).1)) && (((Ai a.kind a.tb a.tm a.th a.td).2.1 == (Ai b.kind b.tb b.tm b.th b.td).2.1) && (((Ai a.kind a.tb a.tm a.th a.td).2.2.1 == (Ai b.kind b.tb b.tm b.th b.td).2.2.1) && ((Ai a.kind a.tb a.tm a.th a.td).2.2.2 == (Ai b.kind b.tb b.tm b.th b.td).2.2.2))))) <;> intro hc <;> cases hc
theorem Ma {n:List UInt8} {ds:List Df} {day:Int} (hp:CJ n ds day=0):(∀ (j:Nat) e,ds[j]?=some e→DL (fun x=>Eb x e) (ds.take j)=false)∧(Ad n ds day).2=0:=by
 unfold CJ at hp
 cases h1:!((Ca n ds).2 == 0)
 ·rw [h1] at hp
  simp only [cond_false] at hp
  cases h2:(cond (decide (day < 0)) true (decide (84005 < day)))
  ·rw [h2] at hp
   simp only [cond_false] at hp
   cases h3:decide (0 < ((Ca n ds).1.length:Int))
   ·rw [h3] at hp
    refine ⟨fun j e he=>?_,hp⟩
    have hl:(Ca n ds).1.length=0:=by have:=of_decide_eq_false h3; omega
    unfold Ca at hl
    rw [JQ h1] at hl
    have:=N3 ds ds 0 hl j e he
    rwa [Nat.zero_add] at this
   rw [h3] at hp
   have hlt:0 < (Ca n ds).1.length:=by have:=of_decide_eq_true h3; omega
   exact absurd hp (S9 n ds _ (DR hlt))
  rw [h2] at hp; cases hp
 rw [h1] at hp
 simp only [cond_true] at hp
 rw [hp] at h1
 cases h1
theorem Yu {n:List UInt8} {ds:List Df} {day:Int} (hp:CJ n ds day=0) {i j:Nat} (hi:i∈Ct n ds day) (hj:j∈Ct n ds day) (ci:Ac (ds.getD i default)=true) (cj:Ac (ds.getD j default)=true) (hn:(ds.getD i default).name=(ds.getD j default).name) (hij:i < j):False:=by
 have hli:=Ew _ hi
 have hlj:=Ew _ hj
 have hno:=(Ma hp).1 j _ (getD_some default hlj)
 have hm:ds.getD i default∈ds.take j:=by
  have:(ds.take j)[i]?=some (ds.getD i default):=by rw [List.getElem?_take,if_pos hij]; exact getD_some default hli
  exact List.mem_of_getElem? this
 have hc:EZ (ds.getD i default) (ds.getD j default)=false:=by
  cases hc:EZ (ds.getD i default) (ds.getD j default)
  ·rfl
  have:=SH (F:=fun x=>Eb x (ds.getD j default)) hm hc
  rw [hno] at this
  cases this
 obtain ⟨hk,hf⟩:=gg hc hn ci cj
 obtain ⟨di,ri⟩:=YG (PG hi) ci
 obtain ⟨dj,rj⟩:=YG (PG hj) cj
 rcases Int.lt_or_gt_of_ne hf with h | h
 ·have:=La (i:=i) hk.symm hn.symm dj h ds 0 false (DR hlj)
  rw [show BG ds day i ds 0 false=Cr ds day i from rfl,ri] at this
  cases this
 have:=La (i:=j) hk hn di h ds 0 false (DR hli)
 rw [show BG ds day j ds 0 false=Cr ds day j from rfl,rj] at this
 cases this
theorem wt {n:List UInt8} {ds:List Df} {day:Int} (hp:CJ n ds day=0) {i j:Nat} (hi:i∈Ct n ds day) (hj:j∈Ct n ds day) (ci:Ac (ds.getD i default)=true) (cj:Ac (ds.getD j default)=true) (hn:(ds.getD i default).name=(ds.getD j default).name):i=j:=by
 rcases Nat.lt_trichotomy i j with h | h | h
 ·exact (Yu hp hi hj ci cj hn h).elim
 ·exact h
 exact (Yu hp hj hi cj ci hn.symm h).elim
theorem IW {ds:List Df} {p1:Int}:∀ (es:List Nat) (a0:Int) (a1:List Nat) (a2:List (Nat×List Nat)),(∀ i∈(BI ds p1 es a0 a1 a2).1,i∈a1∨i∈es)∧((BI ds p1 es a0 a1 a2).2.2=0→(∀ i∈a1,i∈(BI ds p1 es a0 a1 a2).1)∧∀ i∈es,Ac (ds.getD i default)=true→i∈(BI ds p1 es a0 a1 a2).1)
 | [],a0,a1,a2=>by rw [BI]; exact ⟨fun i hi=>.inl hi,fun _=>⟨fun i hi=>hi,fun i hi=>by cases hi⟩⟩
 | e :: es,a0,a1,a2=>by
  rw [BI]
  cases hc:!(Ac (ds.getD e default))
  ·simp only [cond_false]
   cases hc2:!((CI ds (Aa ds p1) e).2 == 0)
   ·have ih:=IW (ds:=ds) (p1:=p1) es a0 (a1++[e]) ((e,(CI ds (Aa ds p1) e).1) :: a2)
    refine ⟨fun i hi=>?_,fun h0=>⟨fun i hi=>(ih.2 h0).1 i (by simp [hi]),fun i hi hci=>?_⟩⟩
    ·rcases ih.1 i hi with h | h
     ·rcases List.mem_append.1 h with h | h
      ·exact .inl h
      rw [List.mem_singleton.1 h]; exact .inr (by simp)
     exact .inr (by simp [h])
    rcases List.mem_cons.1 hi with rfl | hi
    ·exact (ih.2 h0).1 i (by simp)
    exact (ih.2 h0).2 i hi hci
   refine ⟨fun i hi=>(by cases hi),fun h0=>?_⟩
   simp only [cond_true] at h0
   rw [h0] at hc2
   cases hc2
  have ih:=IW (ds:=ds) (p1:=p1) es a0 a1 a2
  refine ⟨fun i hi=>?_,fun h0=>⟨(ih.2 h0).1,fun i hi hci=>?_⟩⟩
  ·rcases ih.1 i hi with h | h
   ·exact .inl h
   exact .inr (by simp [h])
  rcases List.mem_cons.1 hi with rfl | hi
  ·rw [hci] at hc; cases hc
  exact (ih.2 h0).2 i hi hci
theorem OL:∀ (l m:List Nat),l.Nodup→(∀ y∈l,y∈m)→l.length≤m.length
 | [],_,_,_=>Nat.zero_le _
 | x :: l,m,hd,hs=>by
  rw [List.nodup_cons] at hd
  have h1:=OL l (m.erase x) hd.2 (fun y hy=>by
   have hyx:y≠x:=fun e=>hd.1 (e ▸ hy)
   exact (List.mem_erase_of_ne hyx).2 (hs y (by simp [hy])))
  have hx:=hs x (by simp)
  rw [List.length_erase_of_mem hx] at h1
  have:=List.length_pos_of_mem hx
  rw [List.length_cons]
  omega
theorem IJ {F:Nat→Bool} {l:List Nat} (h:decide (Br F l < 0)=false):F (l.getD (Br F l).toNat default)=true:=by
 have key:∀ (es:List Nat) (i:Nat) (a:Int),es=l.drop i→0≤CD F es i a→F (l.getD (CD F es i a).toNat default)=true:=by
  intro es
  induction es with
  | nil=>intro i a _ h; rw [CD] at h; exact absurd h (by decide)
  | cons e es ih=>
   intro i a he h
   have hlt:i < l.length:=by
    have:=congrArg List.length he
    rw [List.length_cons,List.length_drop] at this
    omega
   have hdr:=List.getElem_cons_drop hlt
   rw [← he] at hdr
   obtain ⟨h1,h2⟩:=List.cons.inj hdr
   rw [CD] at h ⊢
   cases hc:F e
   ·rw [hc] at h
    exact ih (i + 1) a h2.symm h
   show F (l.getD ((i:Int)).toNat default)=true
   rw [Int.toNat_natCast,List.getD_eq_getElem?_getD,List.getElem?_eq_getElem hlt,h1]
   exact hc
 have h1:=of_decide_eq_false h
 exact key l 0 0 (by simp) (by unfold Br at h1; omega)
theorem Mc {nodes:List Nat} {ns:List (Nat×List Nat)} {x:Nat} (hx:x∈nodes):∀ (k:Nat) (r:List Nat) (ml:List (Nat×Bool)),r.Nodup→(∀ i∈r,i∈nodes)→(∀ i∈r,(AH ml i).getD false=true)→nodes.length < k + r.length→(D9 nodes ns k r ml).2=0→x∈(D9 nodes ns k r ml).1
 | 0,r,ml,hd,hs,_,hk,_=>by
  have:=OL r nodes hd hs
  omega
 | k + 1,r,ml,hd,hs,hm,hk,h0=>by
  rw [D9] at h0 ⊢
  cases hc:decide ((r.length:Int) < (nodes.length:Int))
  ·have hge:nodes.length≤r.length:=by have:=of_decide_eq_false hc; omega
   show x∈r
   refine Classical.byContradiction fun hxr=>?_
   have:=OL r (nodes.erase x) hd (fun y hy=>(List.mem_erase_of_ne (fun e=>hxr (by rw [← e]; exact hy))).2 (hs y hy))
   rw [List.length_erase_of_mem hx] at this
   have:=List.length_pos_of_mem hx
   omega
  rw [hc] at h0
  simp only [cond_true] at h0 ⊢
  cases hc2:decide (Br (Cg ml ns) nodes < 0)
  ·rw [hc2] at h0
   simp only [cond_false] at h0 ⊢
   have hF:=IJ hc2
   have hin:=DR (Hj hc2).2
   generalize nodes.getD (Br (Cg ml ns) nodes).toNat default=y at h0 hF hin ⊢
   have hy:(AH ml y).getD false=false:=by
    unfold Cg at hF
    cases h:(AH ml y).getD false
    ·rfl
    rw [h] at hF; cases hF
   refine Mc hx k (r++[y]) _ ?_ ?_ ?_ (by rw [List.length_append,List.length_singleton]; omega) h0
   ·rw [List.nodup_append]
    refine ⟨hd,by simp,fun a ha b hb=>?_⟩
    rw [List.mem_singleton.1 hb]
    intro e
    have:=hm a ha
    rw [e,hy] at this
    cases this
   ·intro i hi
    rcases List.mem_append.1 hi with hi | hi
    ·exact hs i hi
    rw [List.mem_singleton.1 hi]; exact hin
   intro i hi
   rw [AH]
   split
   ·rfl
   rename_i hne
   rcases List.mem_append.1 hi with hi | hi
   ·exact hm i hi
   rw [List.mem_singleton.1 hi] at hne; exact absurd rfl hne
  rw [hc2] at h0
  cases h0
theorem Gr {n:List UInt8} {ds:List Df} {day:Int}:(∀ i∈(Ad n ds day).1,i∈Ct n ds day)∧((Ad n ds day).2=0→∀ i∈Ct n ds day,Ac (ds.getD i default)=true→i∈(Ad n ds day).1):=by
 have hg:(∀ i∈(A4 n ds day).1,i∈Ct n ds day)∧((A4 n ds day).2.2=0→∀ i∈Ct n ds day,Ac (ds.getD i default)=true→i∈(A4 n ds day).1):=by
  unfold A4 Ct
  cases !(C7 n ds day == 0)
  ·have h:=IW (ds:=ds) (p1:=day) (Aa ds day) 0 [] []
   exact ⟨fun i hi=>(by rcases h.1 i hi with h | h; cases h; exact h),fun h0=>(h.2 h0).2⟩
  exact ⟨fun i hi=>(by cases hi),fun _ i hi=>(by cases hi)⟩
 unfold Ad
 cases hc:!((A4 n ds day).2.2 == 0)
 ·have h2:=JZ (nodes:=(A4 n ds day).1) (ns:=(A4 n ds day).2.1) ((A4 n ds day).1.length + 1) [] [] (fun j hj=>(by cases hj)) (Nat.zero_le _)
  refine ⟨fun i hi=>hg.1 i (h2.1 i hi),fun h0 i hi hci=>?_⟩
  exact Mc (hg.2 (by simpa using hc) i hi hci) _ [] [] (by simp) (fun j hj=>by cases hj) (fun j hj=>by cases hj) (by simp) h0
 exact ⟨fun i hi=>(by cases hi),fun h0=>absurd h0 (bn hc)⟩
theorem MZ {x:Nat}:∀ (r:List Nat) (m:List (Nat×Bool)) (q:List Nat),(AH m x).getD false=true→(AH (HP r m q).1 x).getD false=true
 | [],_,_,h=>h
 | j :: r,m,q,h=>by
  rw [HP]
  cases !((AH m j).getD false)
  ·exact MZ r m q h
  refine MZ r _ _ ?_
  rw [AH]
  split
  ·rfl
  exact h
theorem Re {nd:Nat→List Nat×Int} {x:Nat}:∀ (h:Nat) (m:List (Nat×Bool)) (q:List Nat),(IM nd h m q).2=0→(AH m x).getD false=true→(AH (IM nd h m q).1 x).getD false=true
 | 0,_,_,_,hm=>hm
 | _ + 1,_,[],_,hm=>hm
 | h + 1,m,i :: q,h0,hm=>by
  rw [IM] at h0 ⊢
  cases hc:!((nd i).2 == 0)
  ·rw [hc] at h0
   exact Re h _ _ h0 (MZ _ _ _ hm)
  rw [hc] at h0
  simp only [cond_true] at h0
  rw [h0] at hc
  cases hc
theorem Pr {n:List UInt8} {ds:List Df} {day:Int} {h:Nat} {ins:List Dl} {pa:List Dk} {nm:List UInt8} (h0:(CX n ds day h ins pa nm).2=0):CJ n ds day=0∧(CX n ds day h ins pa nm).1≠[]∧∀ e∈(CX n ds day h ins pa nm).1,YH ds (Ap n ds day).2.2 pa h (Ad n ds day).1 e:=by
 unfold CX at h0 ⊢
 cases hc:!(CJ n ds day == 0)
 ·rw [hc] at h0
  have hp:CJ n ds day=0:=by simpa using hc
  simp only [cond_false] at h0 ⊢
  refine ⟨hp,?_⟩
  cases hl:AH (Ap n ds day).2.1 nm with
  | none=>rw [hl] at h0; cases h0
  | some r=>
   rw [hl] at h0
   simp only at h0 ⊢
   cases hc2:!((Dn n ds day r.toNat).2 == 0)
   ·rw [hc2] at h0
    simp only [cond_false] at h0 ⊢
    refine ⟨Ps _ _ _ h0 (.inr ?_),Pt _ _ _ (fun i hi=>hi) (fun e he=>by cases he)⟩
    obtain ⟨x,hx,hq,hxc⟩:=KW _ (EM hl)
    obtain rfl:r=(x:Int):=(Prod.mk.inj hq).2
    refine ⟨x,Gr.2 (Ma hp).2 x hx hxc,Re _ _ _ (bz hc2) ?_⟩
    rw [Int.toNat_natCast,AH,if_pos rfl]
    rfl
   rw [hc2] at h0
   simp only [cond_true] at h0
   rw [h0] at hc2
   cases hc2
 rw [hc] at h0
 simp only [cond_true] at h0
 rw [h0] at hc
 cases hc
end Go.Proofs.YtkjbdagicjbjjaaGreat

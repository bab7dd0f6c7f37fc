/-
  Part 48 of a proof: contracts of functions.
-/
import Derived.Test.YtmcpjkcggfmcmaaGreatDoorD47
import Derived.Test.YtmcpjkcggfmcmaaGreatDoorD22
import Derived.Test.YtmcpjkcggfmcmaaGreatDoorD29
import Derived.Test.YtmcpjkcggfmcmaaGreatDoorD16
import Derived.Test.YtmcpjkcggfmcmaaGreatDoorD38
import Derived.Laws.MakeOwn
import Derived.Test.YtmcpjkcggfmcmaaGreatDoorD05
import Derived.Test.YtmcpjkcggfmcmaaGreatDoorD36
set_option linter.all false
namespace Go.Proofs.YtmcpjkcggfmcmaaGreatDoor
set_option maxRecDepth 100000
theorem Fi {ds:List Df} {M:Nat} (i:∀ d∈ds,d.ents.length≤M):∀ (es:List Nat) (a:List (List UInt8)) (b:List (List (Int×Int×Int))) (c:List (List UInt8)) (d e f:List (List UInt8×Int)),(∀ x∈es,x < ds.length)→(∀ x∈b,x.length≤M)→
  (Be ds es a b c d e f).1.length≤a.length + es.length∧(Be ds es a b c d e f).2.1.length≤b.length + es.length∧(∀ x∈(Be ds es a b c d e f).2.1,x.length≤M)∧(Be ds es a b c d e f).2.2.1.length≤c.length + es.length
 | [],a,b,c,d,e,f,_,hb=>by rw [Be]; exact ⟨Nat.le_refl _,Nat.le_refl _,hb,Nat.le_refl _⟩
 | x :: es,a,b,c,d,e,f,h,hb=>by
  have k:=h x (by simp)
  have j:∀ y∈es,y < ds.length:=fun y g=>h y (by simp [g])
  rw [Be,List.length_cons]
  cases (ds.getD x default).kind == 1
  ·cases (ds.getD x default).kind == 2
   ·cases (ds.getD x default).kind == 5
    ·have:=Fi i es a b c d e f j hb
     simp only [cond_false]
     exact ⟨by omega,by omega,this.2.2.1,by omega⟩
    ·have:=Fi i es a b (c++[(ds.getD x default).name]) d e (CP f ((ds.getD x default).name) (c.length:Int)) j hb
     simp only [cond_false,cond_true]
     rw [List.length_append,List.length_singleton] at this
     exact ⟨by omega,by omega,this.2.2.1,by omega⟩
   ·have:=Fi i es a (b++[(id (ds.getD x default).ents)]) c d (CP e ((ds.getD x default).name) (b.length:Int)) f j (fun y g=>by
     rcases List.mem_append.1 g with g | g
     ·exact hb y g
     ·rw [List.mem_singleton.1 g]; exact i _ (Ee k))
    simp only [cond_false,cond_true]
    rw [List.length_append,List.length_singleton] at this
    exact ⟨by omega,by omega,this.2.2.1,by omega⟩
  ·have:=Fi i es (a++[(ds.getD x default).name]) b c (CP d ((ds.getD x default).name) (a.length:Int)) e f j hb
   simp only [cond_true]
   rw [List.length_append,List.length_singleton] at this
   exact ⟨by omega,by omega,this.2.2.1,by omega⟩
theorem Rf {n:List UInt8} {ds:List Df} {p:Int} {M:Nat} (a:∀ d∈ds,d.ents.length≤M):(AA n ds p).1.length≤ds.length∧(AA n ds p).2.1.length≤ds.length∧(∀ x∈(AA n ds p).2.1,x.length≤M)∧(AA n ds p).2.2.1.length≤ds.length:=by
 have h:=Fi a (BK n ds p) [] [] [] [] [] [] GA (fun _ h=>by cases h)
 have hl:=N3 (n:=n) (ds:=ds) (p1:=p)
 simp only [List.length_nil,Nat.zero_add] at h
 unfold AA
 exact ⟨Nat.le_trans h.1 hl,Nat.le_trans h.2.1 hl,h.2.2.1,Nat.le_trans h.2.2.2 hl⟩
structure IL (N M:Nat) (r:List (List UInt8)×List (List (Int×Int×Int))×List (List UInt8)×List DL×Int):Prop where
 ins:r.1.length≤N
 scs:r.2.1.length≤N
 ent:∀ x∈r.2.1,x.length≤M
 pas:r.2.2.1.length≤N
 rts:r.2.2.2.1.length≤N
 code:∀ x∈r.2.2.2.1,x.2.2.2.2.2.length≤4096
theorem IL.bad (N M:Nat) (e:Int):IL N M ([],[],[],[],e):=⟨Nat.zero_le _,Nat.zero_le _,fun _ h=>(by cases h),Nat.zero_le _,Nat.zero_le _,fun _ h=>(by cases h)⟩
theorem LQ {n:List UInt8} {ds:List Df} {p:Int} {M N:Nat} (g:∀ d∈ds,d.ents.length≤M) (f:ds.length≤N) {m:List (List UInt8×Int)}:∀ (es:List Nat) (a:Int) (b:List DL),b.length + es.length≤N→(∀ x∈b,x.2.2.2.2.2.length≤4096)→IL N M (CK n ds p m es a b)
 | [],a,b,hl,hb=>by
  have h:=Rf (n:=n) (p:=p) g
  rw [CK]
  exact ⟨Nat.le_trans h.1 f,Nat.le_trans h.2.1 f,h.2.2.1,Nat.le_trans h.2.2.2 f,by simpa using hl,hb⟩
 | x :: es,a,b,hl,hb=>by
  rw [List.length_cons] at hl
  rw [CK]
  cases hc:decide (4096 < ((Aa (((AA n ds p)).2.2.2.1) (((AA n ds p)).2.2.2.2.1) (((AA n ds p)).2.2.2.2.2.1) m ((ds.getD x default).body).height ((ds.getD x default).body) 0).length:Int))
  ·have hc:=of_decide_eq_false hc
   have e:(Aa (((AA n ds p)).2.2.2.1) (((AA n ds p)).2.2.2.2.1) (((AA n ds p)).2.2.2.2.2.1) m ((ds.getD x default).body).height ((ds.getD x default).body) 0).length≤4096:=by omega
   simp only [cond_false]
   have go:∀ t:DL,t.2.2.2.2.2.length≤4096→IL N M (CK n ds p m es a (b++[t])):=fun t ht=>LQ g f es a (b++[t]) (by rw [List.length_append,List.length_singleton]; omega) (fun y c=>by
    rcases List.mem_append.1 c with c | c
    ·exact hb y c
    ·rw [List.mem_singleton.1 c]; exact ht)
   cases (ds.getD x default).kind == 4
   ·exact go _ e
   ·exact go _ e
  ·exact IL.bad _ _ _
theorem LR {n:List UInt8} {ds:List Df} {p:Int} {M:Nat} (a:∀ d∈ds,d.ents.length≤M) (hn:∀ d∈ds,nE d.body≤1000000):∀ (es:List Nat) (k:Nat) (m:List (List UInt8×Int)),IL ds.length M (Cn n ds p es k m)
 | [],k,m=>by
  rw [Cn]
  exact LQ a (Nat.le_refl _) _ _ _ (by simpa using (FD (n:=n) (p1:=p) hn).2) (fun _ h=>by cases h)
 | x :: es,k,m=>by rw [Cn]; exact LR a hn es _ _
theorem VY {n:List UInt8} {ds:List Df} {p:Int} {M:Nat} (a:∀ d∈ds,d.ents.length≤M) (hn:∀ d∈ds,nE d.body≤1000000):IL ds.length M (CF n ds p):=by
 unfold CF
 cases !(FF n ds)
 ·cases cond (decide (p < 0)) (true) (decide (84005 < p))
  ·cases !((CL n ds).2 == 0)
   ·cases decide (0 < ((CL n ds).1.length:Int))
    ·cases !((Au n ds p).2 == 0)
     ·exact LR a hn _ _ _
     ·exact IL.bad _ _ _
    ·exact IL.bad _ _ _
   ·exact IL.bad _ _ _
  ·exact IL.bad _ _ _
 ·exact IL.bad _ _ _
end Go.Proofs.YtmcpjkcggfmcmaaGreatDoor
namespace Go.Proofs.YtmcpjkcggfmcmaaGreatDoor
noncomputable section
open Go.RowKit
set_option maxRecDepth 100000
set_option maxHeartbeats 1000000
attribute [local irreducible] BO CB AE AG AL Ay Aj AP Bc Cq Eb CT CO At Fr
def Uw (o:Op):Option (FuncId×List Operand):=match o with
 | .call ⟨.value (.func g),xs,_⟩=>some (g,xs.toList)
 | _=>none
theorem dw {o:Op} {g:FuncId} {xs:List Operand} (h:Uw o=some (g,xs)):∃ ats,o=.call ⟨.value (.func g),xs.toArray,ats⟩:=by
 unfold Uw at h
 split at h
 ·rename_i g' xs' ats
  simp only [Option.some.injEq,Prod.mk.injEq] at h
  obtain ⟨rfl,rfl⟩:=h
  exact ⟨ats,rfl⟩
 ·cases h
theorem rU {P:Program} {f:FuncId} {R:Ending→World→Prop} {n:Nat} {todo:List Item} {E:Nat→Value} {w0 w:World} {M:List BI} {L T:List Th} (K:Wk w0 w M L T) {mem:List BI} (m:List Nat) (hints:List (Nat×Nat×Nat)) (specs:List Sp) (i:Nat) {g:FuncId} {xs:List Operand} {args:List Value} {Q:World→Ending→World→Prop}
  (l:∀ e∈mem,e.good w) (k:∀ sp∈specs,Hb P n (Below w.heap.size w) (BR todo) sp)
  (h:∀ u,Wk w0 u M L T→Calls P g args.toArray u (Q u)) (j:∀ u e w',Wk w0 u M L T→Q u e w'→∃ v,e=.returned v∧At P f R (AP todo) (Fr n (Bc (Jm P n (BR todo) mem hints specs m E) ((BR todo).getD i default).dst v)) w')
  (hd:(Fc todo).isSome=true:=by kernel_rfl) (hmo:P.follows .mixedOrders=true:=by kernel_rfl)
  (hok:(EY .any (BR todo) (LJ (BR todo) m) (Array.replicate (BR todo).size false) n (KY P n (BR todo) mem hints specs m E) && bare (BR todo) (KY P n (BR todo) mem hints specs m E),m.all (Mv P n (BR todo) mem hints specs m E),Nat.beq (m.length + 1) (BR todo).size)=(true,true,true):=by kernel_rfl)
  (hp:∀ X,cP P n (BR todo) mem hints specs m E X=UR P n (BR todo) mem hints specs m E:=by intro _; kernel_rfl)
  (hc:(Region.ready .any (BR todo) (m.foldl (fun b i=>b.setIfInBounds i true) (Array.replicate (BR todo).size false)),Nat.blt i (BR todo).size,((BR todo).getD i default).guard,Region.ready .any (BR todo) ((m.foldl (fun b i=>b.setIfInBounds i true) (Array.replicate (BR todo).size false)).setIfInBounds i true),xs.map (BN n (Jm P n (BR todo) mem hints specs m E)),Dw P g,Uw ((BR todo).getD i default).op)=([i],true,none,[],args,true,some (g,xs)):=by kernel_rfl):At P f R todo (Fr n E) w:=by
 simp only [Prod.mk.injEq] at hc
 obtain ⟨t,a,s,r,q,p,o⟩:=hc
 obtain ⟨ats,hop⟩:=dw o
 refine d4 K m hints specs 1 hd hmo l k hok hp fun u c=>?_
 rw [Nat.blt_eq] at a
 refine Gh (fuel:=0) ((BR todo).getD i default) g xs args (hr:=t) (ho:=by simp [Array.getD,a]) (hgd:=s) (hop:=hop) (ha:=q) (hg:=p) ((h u c).mono fun e w' d=>?_)
 obtain ⟨v,rfl,ha⟩:=j u e w' c d
 exact ⟨v,rfl,Cy (hr:=r) ⟨rfl,ha.mid⟩⟩
theorem Wk.give {w0 w:World} {M:List BI} {L T:List Th} (K:Wk w0 w M L T) (a:List Nat) {M':List BI} {L':List Th} (h:a.map ((M.map Th.ent++(L++T))[·]?)=(M'.map Th.ent++(L'++[])).map some:=by rfl) (hn:a.Nodup:=by decide):Wk w0 w M' L' []:=⟨K.B,K.H.pick a h hn⟩
def H3 (i:Nat) (x:AK):List UInt8:=[32,32]++BE (i:Int)++[32]++FX x.1 x.2.1 x.2.2.1 x.2.2.2.1 x.2.2.2.2.1 x.2.2.2.2.2++[10]
def KE:List AK→Nat→List UInt8
 | [],_=>[]
 | x :: r,i=>H3 i x++KE r (i + 1)
def Tc (x:AK):Prop:=(0≤x.2.1∧x.2.1 < 100)∧(0≤x.2.2.1∧x.2.2.1 < 100)∧(0≤x.2.2.2.1∧x.2.2.2.1 < 100)∧(0≤x.2.2.2.2.1∧x.2.2.2.2.1 < 100)∧(0≤x.2.2.2.2.2∧x.2.2.2.2.2 < 100)
theorem Q9 (a b c d e f:Int):(FX a b c d e f).length≤40:=by
 have j:=CU a; have h2:=Ca b; have i:=Ca e; have h:=Ca f; have g:=H7 c d
 unfold FX
 simp only [Bool.cond_eq_ite]
 repeat' split
 all_goals first | omega | (simp only [List.length_append,List.length_cons,List.length_nil]; omega)
theorem PW (i:Nat) (x:AK):(H3 i x).length≤50:=by
 have a:=Ca (i:Int); have h2:=Q9 x.1 x.2.1 x.2.2.1 x.2.2.2.1 x.2.2.2.2.1 x.2.2.2.2.2
 unfold H3
 simp only [List.length_append,List.length_cons,List.length_nil]
 omega
noncomputable def dL:Code:=Tryz.f28.body.getD .skip
def fT:=AB 60 ([.code dL])
def S4:=AB 60 (Ay fT)
def fS:=AB (BA Ai 90 (AG S4)) (AG S4)
def o4:=AB (BA cL 90 (AE (AE fS))) (AE (AE fS))
def fR:=AB 60 (AE (AE o4))
def fQ:=AB 60 (Ay fR)
def o3:=AB (BA Ai 90 (AG fQ)) (AG fQ)
def vW:=Ad 9 (AE (AE o3))
def o2:=AB 60 (AL S4)
def vV:=AB 60 (AE o2)
theorem VO (pA pB pC A:Option Addr) (nA nB nC a b d c:Nat) (e:DL) (w:World) (a0:rowsRt w A [e]) (x0:e.1.length≤100) (i0:e.2.2.2.2.2.length≤100) (f0:∀ x∈e.2.2.2.2.2,Tc x) (b1:Hs w) :
  Calls Tryz.prog 28 ([.agg ⟨[.slice pA nA a,.slice pB nB b,.slice pC nC d,.slice A 1 c]⟩]:List Value).toArray w fun en w'=>en=.returned (.string ⟨⟨e.1++[58,10]++KE e.2.2.2.2.2 0⟩⟩)∧Below w.heap.size w w':=by
 obtain ⟨nm,s,mode,num,den,cs⟩:=e
 simp only at x0 i0 f0 ⊢
 obtain ⟨p,q,rfl,hg,p0⟩:=a0.all (by simp)
 obtain ⟨A1,c1,w0,h0⟩:=p0 0 _ rfl
 simp only at h0
 let z2:List Value:=[.slice pA nA a,.slice pB nB b,.slice pC nC d,.slice (some ⟨p,q,none⟩) 1 c]
 refine Af (args:=[.agg ⟨z2⟩]) (fn:=Tryz.f28) (c:=dL) (n:=39) ?_
 have K1:=Wk.start w
 refine C8 fT [⟨w.heap.size,0,z2,43,true⟩,Gt (w.heap.size + 1) none none 0 0] K1 [(0,3)] fun w1 K2=>?_
 refine mq (by kernel_rfl) ?_
 refine AC S4 K2 [] fun w2 K3=>?_
 refine AM true (fun _=>?_) (fun h=>by cases h)
 refine BG Ai fS K3 [] fun w3 K4=>?_
 refine BH (g:=p) (off:=q) (cap:=c) (sz:=6) (k:=0) (len:=1) (some 13) (by decide) Tryz.underlying41 ?_
 let z3:List Value:=[.string ⟨⟨nm⟩⟩,.bool s,D mode,D num,D den,.slice A1 cs.length c1]
 refine CC 49 p (q + 0 * 6) z3 (some 14) (Ac w0 hg K4.B) ?_
 refine Cb cL o4 [⟨w.heap.size,0,z2,43,true⟩,Gt (w.heap.size + 1) none none 0 0,⟨w3.heap.size,0,z3,49,true⟩] K4 [(2,0),(2,0)] fun w4 K5=>?_
 refine IA (v:=.string ⟨⟨nm++[58,10]⟩⟩) (w':=w4) (Bt (T:=9) (T':=9) (x:=.tmp 16) (y:=.const (.string ⟨⟨[58,10]⟩⟩)) (by simp only [List.length_cons,List.length_nil]; omega)) ?_
 have K6:Wk w w4 [⟨w3.heap.size,0,z3,49,true⟩] ([Th.ent (Gt (w.heap.size + 1) none none 0 0),Gc none 0 []]++[]) []:=(K5.addNil 5 1 (fun (e:UInt8) r=>r=WA e)).give [2,1,3]
 refine CJ (Qs (bs:=[]) K6.B K6.front (.inl rfl) (nm++[58,10]) (by simp) (by simp only [List.length_append,List.length_cons,List.length_nil]; omega)) fun en w5 hh=>?_
 obtain ⟨A5,c5,rfl,b5,H5⟩:=hh
 refine ⟨_,rfl,?_⟩
 have K7:=Wk.unfront b5 H5
 refine AC fR K7 [(0,5)] fun w6 K8=>?_
 have y0:∀ n:Nat,n≤100→IntKind.i64.wrap ((n:Int) + 1)=((n + 1:Nat):Int):=fun n hn=>Bs n (by omega)
 let z1:Option Addr:=some ⟨w.heap.size + 1,0,none⟩
 refine BB [(3,.pointer z1),(9,.slice (some ⟨p,q,none⟩) 1 c),(10,D 1),(11,D 0),(20,.slice A1 cs.length c1),(21,D (cs.length:Int)),(22,D ((0:Nat):Int))] fun E6=>?_
 have K9:=K8.give [1,2] (M':=[]) (L':=[Th.ent (Gt (w.heap.size + 1) z1 A5 (nm++[58,10]).length c5),Gc A5 c5 (nm++[58,10])])
 refine Bi (by kernel_rfl) (fun E wx=>∃ (i:Nat) (A c2:_) (bs:List UInt8) (E0:Nat→Value),i≤cs.length∧E=Aw E0 [(3,.pointer z1),(9,.slice (some ⟨p,q,none⟩) 1 c),(10,D 1),(11,D 0),(20,.slice A1 cs.length c1),(21,D (cs.length:Int)),(22,D (i:Int))]∧bs++KE (cs.drop i) i=nm++[58,10]++KE cs 0∧bs.length≤102 + 50 * i∧Wk w wx [] [Th.ent (Gt (w.heap.size + 1) z1 A bs.length c2),Gc A c2 bs] []) (fun E _=>cs.length - AQ (E 22)) ⟨0,A5,c5,nm++[58,10],E6,Nat.zero_le _,rfl,rfl,by simp only [List.length_append,List.length_cons,List.length_nil]; omega,K9⟩ ?_
 rintro E wx ⟨i,A7,c7,bs,E0,hi,rfl,t,k1,f1⟩ m
 refine AC fQ f1 [] fun w7 t0=>?_
 refine AM (decide ((i:Int) < (cs.length:Int))) (fun h1=>?_) (fun h1=>?_)
 ·have f:i < cs.length:=by have:=of_decide_eq_true h1; omega
  obtain ⟨x,hx⟩:∃ x,cs[i]?=some x:=⟨_,List.getElem?_eq_getElem f⟩
  obtain ⟨gC,fC,d1,a1,z⟩:=h0.all (Nat.lt_of_le_of_lt (Nat.zero_le _) f)
  subst d1
  have v0:=z i x hx
  obtain ⟨s1,s2,s3,s4,s5⟩:=f0 x (List.mem_of_getElem? hx)
  refine BG Ai o3 t0 [] fun w8 o=>?_
  refine BH (g:=gC) (off:=fC) (cap:=c1) (sz:=6) (k:=i) (len:=cs.length) (some 25) f Tryz.underlying47 ?_
  refine CC 53 gC (fC + i * 6) (Nt x) (some 26) (Ac v0 a1 o.B) ?_
  refine CR 9 vW [⟨w8.heap.size,0,Nt x,53,true⟩] o [(0,0)] fun w9 j=>?_
  have i1:i < 100:=Nat.lt_of_lt_of_le f i0
  have e1:=Ca (i:Int); have e2:=Q9 x.1 x.2.1 x.2.2.1 x.2.2.2.1 x.2.2.2.2.1 x.2.2.2.2.2
  refine rU j [0,1,2,3,4,5,6,7] [(4,0,0)] [⟨1,[(27,D (i:Int))],.string ⟨⟨BE (i:Int)⟩⟩,true⟩,⟨2,[(28,.string ⟨⟨BE (i:Int)⟩⟩)],.string ⟨⟨[32,32]++BE (i:Int)⟩⟩,true⟩,⟨3,[(29,.string ⟨⟨[32,32]++BE (i:Int)⟩⟩)],.string ⟨⟨[32,32]++BE (i:Int)++[32]⟩⟩,true⟩,⟨5,[(31,.agg ⟨Nt x⟩)],.string ⟨⟨FX x.1 x.2.1 x.2.2.1 x.2.2.2.1 x.2.2.2.2.1 x.2.2.2.2.2⟩⟩,true⟩,⟨6,[(30,.string ⟨⟨[32,32]++BE (i:Int)++[32]⟩⟩),(32,.string ⟨⟨FX x.1 x.2.1 x.2.2.1 x.2.2.2.1 x.2.2.2.2.1 x.2.2.2.2.2⟩⟩)],.string ⟨⟨[32,32]++BE (i:Int)++[32]++FX x.1 x.2.1 x.2.2.1 x.2.2.2.1 x.2.2.2.2.1 x.2.2.2.2.2⟩⟩,true⟩,⟨7,[(33,.string ⟨⟨[32,32]++BE (i:Int)++[32]++FX x.1 x.2.1 x.2.2.1 x.2.2.2.1 x.2.2.2.2.1 x.2.2.2.2.2⟩⟩)],.string ⟨⟨H3 i x⟩⟩,true⟩] 8 (g:=62) (xs:=[.tmp 3,.tmp 34]) (args:=[.pointer z1,.string ⟨⟨H3 i x⟩⟩]) j.G (fun sp e0=>?_) (fun u Ku=>Qs Ku.B (Wk.front (F:=[Th.ent (Gt (w.heap.size + 1) z1 A7 bs.length c7),Gc A7 c7 bs]) (Q:=[]) Ku) (.inr rfl) (H3 i x) (by unfold H3; simp) (by have:=PW i x; omega)) fun u en d0 Ku hh=>?_
  ·simp only [List.mem_cons,List.not_mem_nil,or_false] at e0
   rcases e0 with rfl | rfl | rfl | rfl | rfl | rfl
   ·exact AX 63 [.tmp 27] [D (i:Int)] (fun _=>by kernel_rfl) fun hc u hu=>AR hu (Es (i:Int) ⟨by omega,by omega⟩ u)
   ·exact An fun _ E u _=>Bt (T:=9) (T':=9) (x:=.const (.string ⟨⟨[32,32]⟩⟩)) (y:=.tmp 28) (by simp only [List.length_cons,List.length_nil]; omega)
   ·exact An fun _ E u _=>Bt (T:=9) (T':=9) (x:=.tmp 29) (y:=.const (.string ⟨⟨[32]⟩⟩)) (by simp only [List.length_append,List.length_cons,List.length_nil]; omega)
   ·exact AX 64 [.tmp 31] [.agg ⟨Nt x⟩] (fun _=>by kernel_rfl) fun hc u hu=>AR hu (iO x.1 x.2.1 x.2.2.1 x.2.2.2.1 x.2.2.2.2.1 x.2.2.2.2.2 u s1 s2 s3 s4 s5 (Gp b1 (j.B.trans (hu.mono j.B.size))))
   ·exact An fun _ E u _=>Bt (T:=9) (T':=9) (x:=.tmp 30) (y:=.tmp 32) (by simp only [List.length_append,List.length_cons,List.length_nil]; omega)
   ·exact An fun _ E u _=>Bt (T:=9) (T':=9) (x:=.tmp 33) (y:=.const (.string ⟨⟨[10]⟩⟩)) (by simp only [List.length_append,List.length_cons,List.length_nil]; omega)
  obtain ⟨A8,c8,rfl,b8,H8⟩:=hh
  refine ⟨_,rfl,?_⟩
  have l:Wk w d0 [⟨w8.heap.size,0,Nt x,53,true⟩] ([Th.ent (Gt (w.heap.size + 1) z1 A8 (bs++H3 i x).length c8),Gc A8 c8 (bs++H3 i x)]++[]) []:=Wk.unfront b8 H8
  refine AC (Aj fR) l [] fun c0 b0=>?_
  refine BB [(3,.pointer z1),(9,.slice (some ⟨p,q,none⟩) 1 c),(10,D 1),(11,D 0),(20,.slice (some ⟨gC,fC,none⟩) cs.length c1),(21,D (cs.length:Int)),(22,D (IntKind.i64.wrap ((i:Int) + 1)))] fun E8=>?_
  rw [y0 i (by omega)]
  refine m _ _ ⟨i + 1,A8,c8,bs++H3 i x,E8,f,rfl,?_,?_,b0.give [1,2]⟩ ?_
  ·rw [← t,List.drop_eq_getElem_cons f,show cs[i]=x from (List.getElem?_eq_some_iff.1 hx).2,List.append_assoc]
   rfl
  ·have:=PW i x
   rw [List.length_append]
   omega
  ·show cs.length - AQ (D ((i + 1:Nat):Int)) < cs.length - AQ (D (i:Int))
   simp only [AQ]
   omega
 ·have z0:i=cs.length:=by have:=of_decide_eq_false h1; omega
  rw [z0,List.drop_length] at t
  refine AC (Aj fT) t0 [] fun w8 o=>?_
  refine ig (by kernel_rfl) ?_
  refine AC S4 o [] fun w9 j=>?_
  refine AM false (fun h=>by cases h) (fun _=>?_)
  refine AC o2 j [] fun d0 l=>?_
  have k0:bs=nm++[58,10]++KE cs 0:=by rw [← t]; simp [KE]
  refine CJ (Yv l.H (by rw [k0]; simp) (by omega)) fun en c0 hh=>?_
  obtain ⟨rfl,q0⟩:=hh
  refine ⟨_,rfl,?_⟩
  have b0:Wk w c0 [] [] []:=⟨l.B.trans q0,AU.nil (Nat.le_trans l.size q0.size)⟩
  refine AC vV b0 [] fun g1 r0=>?_
  exact Ab r0 (0,0) (.string ⟨⟨bs⟩⟩) ⟨by rw [k0],r0.B⟩
end
end Go.Proofs.YtmcpjkcggfmcmaaGreatDoor
namespace Go.Proofs.YtmcpjkcggfmcmaaGreatDoor
noncomputable def Mb:Nat→List Value→List Value
 | 0,_=>[]
 | n + 1,z=>z++Mb n z
theorem Vm (z:List Value):∀ n,(Mb n z).length=n * z.length
 | 0=>by simp [Mb]
 | n + 1=>by rw [Mb,List.length_append,Vm z n,Nat.succ_mul,Nat.add_comm]
theorem Vn (z:List Value):∀ (n j:Nat),j < n * z.length→(Mb n z)[j]?=z[j % z.length]?
 | 0,j,h=>by simp at h
 | n + 1,j,h=>by
  rw [Mb,List.getElem?_append]
  split
  ·rename_i hj
   rw [Nat.mod_eq_of_lt hj]
  ·rename_i hj
   have hz:z.length≤j:=by omega
   rw [Vn z n (j - z.length) (by rw [Nat.succ_mul] at h; omega),Nat.mod_eq_sub_mod hz]
theorem Rj (z:List Value) (n:Nat):(madeCells z.toArray (n * z.length)).toList=Mb n z:=by
 apply List.ext_getElem?
 intro j
 by_cases hj:j < n * z.length
 ·rw [Vn z n j hj]
  have hz:0 < z.length:=Nat.pos_of_ne_zero fun e=>by rw [e] at hj; simp at hj
  have hm:j % z.length < z.length:=Nat.mod_lt _ hz
  rw [List.getElem?_eq_getElem hm]
  simp [madeCells,hj,hm]
 ·rw [List.getElem?_eq_none (by rw [Array.length_toList,size_madeCells]; omega),List.getElem?_eq_none (by rw [Vm]; omega)]
end Go.Proofs.YtmcpjkcggfmcmaaGreatDoor
namespace Go.Proofs.YtmcpjkcggfmcmaaGreatDoor
open Go.RowKit
set_option maxRecDepth 100000
set_option maxHeartbeats 600000
abbrev Hf (A:Option Addr) (c:Nat) (l:List Int):Th:=Th.row 3 1 (fun e r=>r=Je e) A c l
theorem AU.rowsInt {b:Nat} {w:World} {L:List Th} {A:Option Addr} {c:Nat} {l:List Int} (h:AU b w L) (i:Nat) (hi:L[i]?=some (Hf A c l)):rowsInt w A l:=h.rowsF (fun _=>rfl) i hi
theorem Q0 (z:List Value):∀ n,Mb n z=(List.replicate n z).flatten
 | 0=>rfl
 | n + 1=>by rw [List.replicate_succ,List.flatten_cons,← Q0 z n]; rfl
theorem Tv {α:Type} {a:α→List Value→Prop} {e:α} {r:List Value} (h:a e r):∀ n,Dm a (List.replicate n e) (List.replicate n r)
 | 0=>trivial
 | n + 1=>⟨h,Tv h n⟩
theorem Mx (z:List Value):∀ n,(List.replicate n z).flatten.length=n * z.length
 | 0=>by simp
 | n + 1=>by rw [List.replicate_succ,List.flatten_cons,List.length_append,Mx z n,Nat.succ_mul,Nat.add_comm]
theorem Q1:∀ {l:List Nat} {a:List Int} {rs:List (List Value)},a=l.map (fun (n:Nat)=>(n:Int))→Dm (fun (e:Int) r=>r=Je e) a rs→Dm (fun (e:Nat) r=>r=Fs e) l rs
 | [],_,[],rfl,_=>trivial
 | [],_,_ :: _,rfl,h=>h.elim
 | _ :: _,_,[],rfl,h=>h.elim
 | _ :: _,_,_ :: _,rfl,h=>⟨h.1,Q1 rfl h.2⟩
theorem AU.natRow {b:Nat} {w:World} {L:List Th} {A:Option Addr} {c:Nat} {d:List Int} (h:AU b w L) (l:List Nat) (hl:d=l.map (fun (n:Nat)=>(n:Int))) (i:Nat) (hi:L[i]?=some (Hf A c d)):AU b w (L.set i (BP A c l)):=by
 obtain ⟨rs,f,h2⟩:(Hf A c d).P w:=h.all i _ hi
 have a:d.length=l.length:=by rw [hl,List.length_map]
 refine h.set i hi (Nat.le_refl _) ⟨rs,Q1 hl f,by rw [← a]; exact h2⟩ (fun k e=>?_) (fun _ _ _=>rfl)
 exact ⟨(h.lo i _ hi k e).2,.inl e⟩
section
variable {P:Program} {fi:FuncId} {R:Ending→World→Prop} {b k:Nat} {td:List Item} {E:Nat→Value} {L:List Th} {w:World}
theorem ij {α:Type} (p:α→List Value→Prop) (z0:α) (m:List Value) (b0:p z0 m) {T:TypeId} {sz bytes:Nat} (f:(P.info? T).map (fun i=>(i.zero.map (fun z=>z.cells.toList),i.size,i.bytes))=some (some m,sz,bytes)) (v:m.length=sz)
  (H:AU b w L) (o:Oper) (hc:FY k E td=some o) {t:TypeId} {x y:Operand} (ho:o.op=.makeSlice t x y) (ht:P.underlying t=some (.slice T)) (n:Nat) (hx:BN k E x=D (n:Int)) (hy:BN k E y=D (n:Int)) (hn:n≤10000000000) (e0:bytes≤1024)
  (hk:∀ g w',w'.heap.size=w.heap.size + 1→AU b w' (L++[Th.row T sz p (some ⟨g,0,none⟩) n (List.replicate n z0)])→Below b w w'→At P fi R (AE td) (Fr k (Bc E o.dst (.slice (some ⟨g,0,none⟩) n n))) w'):At P fi R td (Fr k E) w:=by
 obtain ⟨a,hi,r⟩:=Option.map_eq_some_iff.1 f
 simp only [Prod.mk.injEq] at r
 obtain ⟨hz,hs,hb⟩:=r
 obtain ⟨z,hz,a0⟩:=Option.map_eq_some_iff.1 hz
 have d:(a.bytes:Int) * ((n:Nat):Int)≤281474976710656:=by
  have:a.bytes * n≤1024 * 10000000000:=Nat.mul_le_mul (by omega) hn
  have h4:((a.bytes * n:Nat):Int)≤281474976710656:=by omega
  rwa [Int.natCast_mul] at h4
 have e:=run_make (P:=P) w t T a z ht hi hz .i64 .i64 (n:Int) (n:Int) (by omega) (by omega) d (by omega)
 have l:(madeCells z.cells (((n:Nat):Int).toNat * a.size)).toList=(List.replicate n m).flatten:=by
  have h:=Rj z.cells.toList n
  rw [Array.toArray_toList,a0,v,← hs,Q0] at h
  rw [Int.toNat_natCast]
  exact h
 have c:=Mx m n
 rw [v] at c
 generalize madeCells z.cells (((n:Nat):Int).toNat * a.size)=cs at e l
 have hB:Below w.heap.size w (w.alloc (.cells cs T)):=⟨rfl,rfl,rfl,by simp,fun q hq=>D8 w _ q hq⟩
 have c0:(execOp (BN k E) o).run P w=.ok (.value (.slice (some ⟨w.heap.size,0,none⟩) n n)) (w.alloc (.cells cs T)):=by
  unfold execOp
  simp only [ho,hx,hy]
  rw [Sem.run_bind,e]
  rfl
 refine NP o hc c0 (hk _ _ (by simp) (H.join hB ⟨by simp,fun i u hi=>?_,fun i u hi q hq=>?_,fun i j s u hi hj d0=>?_⟩) (hB.mono H.base))
 ·cases i with
  | zero=>
   obtain rfl:=Option.some.inj hi
   refine ⟨List.replicate n m,Tv b0 n,by rw [List.length_replicate,c],.inr ⟨w.heap.size,n,cs,by rw [List.length_replicate],Nat.zero_le _,heap_alloc_new w _,by rw [List.length_replicate]; exact Nat.le_refl _,by unfold maxLen; omega,?_,?_⟩⟩
   ·rw [← Array.length_toList,l,c]
   ·rw [l,List.length_replicate,List.take_of_length_le (by rw [c]; exact Nat.le_refl _)]
  | succ i=>simp at hi
 ·cases i with
  | zero=>
   obtain rfl:=Option.some.inj hi
   obtain rfl:w.heap.size=q:=by have:=Option.some.inj hq; injection this
   simp
  | succ i=>simp at hi
 ·cases i with
  | zero=>cases j with
   | zero=>exact absurd rfl d0
   | succ j=>simp at hj
  | succ i=>simp at hi
end
def lv:Op→Bool
 | .makeSlice _ _ _=>true
 | _=>false
end Go.Proofs.YtmcpjkcggfmcmaaGreatDoor

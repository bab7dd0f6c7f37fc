/-
  Part 45 of a proof: contracts of functions.
-/
import Derived.Test.YtkjbdagicjbjjaaGreatTf44
import Derived.Test.YtkjbdagicjbjjaaGreatTf18
set_option linter.all false
namespace Go.Proofs.YtkjbdagicjbjjaaGreat
open Go.RowKit
set_option maxRecDepth 100000
set_option maxHeartbeats 2000000
theorem my {α:Type} {l:List α} {m n:Nat} {x y:α} (hm:l[m]?=some x) (hn:l[n]?=some y) (z:α):z∈(l.set n x).set m y↔z∈l:=by
 have a:=(List.getElem?_eq_some_iff.1 hm).1
 have c:=(List.getElem?_eq_some_iff.1 hn).1
 constructor
 ·intro h
  rcases List.mem_or_eq_of_mem_set h with h | rfl
  ·rcases List.mem_or_eq_of_mem_set h with h | rfl
   ·exact h
   ·exact List.mem_of_getElem? hm
  ·exact List.mem_of_getElem? hn
 ·intro h
  obtain ⟨k,b⟩:=List.mem_iff_getElem?.1 h
  by_cases hkm:k=m
  ·subst hkm
   rw [hm] at b
   obtain rfl:=Option.some.inj b
   by_cases hmn:k=n
   ·subst hmn
    rw [hm] at hn
    obtain rfl:=Option.some.inj hn
    exact List.mem_of_getElem? (i:=k) (by rw [List.getElem?_set_self (by simpa using a)])
   ·exact List.mem_of_getElem? (i:=n) (by rw [List.getElem?_set_ne hmn,List.getElem?_set_self c])
  ·by_cases hkn:k=n
   ·subst hkn
    rw [hn] at b
    obtain rfl:=Option.some.inj b
    exact List.mem_of_getElem? (i:=m) (by rw [List.getElem?_set_self (by simpa using a)])
   ·exact List.mem_of_getElem? (i:=k) (by rw [List.getElem?_set_ne (fun e=>hkm e.symm),List.getElem?_set_ne (fun e=>hkn e.symm),b])
theorem LK {a:Array Bool} {i j:Nat} (h:i < a.size):(a.setIfInBounds i true).getD j false=(decide (i=j) || a.getD j false):=by
 rw [Array.getD_eq_getD_getElem?,Array.getD_eq_getD_getElem?,Array.getElem?_setIfInBounds]
 by_cases hij:i=j
 ·simp [hij] at h ⊢
  simp [h]
 ·simp [hij]
theorem de {a:Array Bool} {j:Nat} (h:a.getD j false=true):a.getD j true=true:=by
 rw [Array.getD_eq_getD_getElem?] at h ⊢
 cases hl:a[j]? with
 | none=>rfl
 | some v=>rw [hl] at h; exact h
theorem AM.skip {P:Program} {o:Oper} {ρ:Operand→Value} {w w':World} {K:Value→World→Prop} (hx:(execOp ρ o).run P w=.ok .skip w') (a:K undef w'):AM P o ρ w K:=by
 unfold AM
 rw [hx]
 exact a
attribute [local irreducible] A8 BL AC AD AF Ao AY AL Aq Bb Cn BR GR Dx Cm BK At Fr
theorem y3 {R:Ending→World→Prop} {b:Nat} {ns:List Int} {H:Nat} {wl:Bool} {w w0 d:World} {A:Option Addr} {c:Nat} {xs o:List En} {G:Nat→Prop} {E:Nat→Value} {i:Nat} (t:0 < xs.length) (l:w0.heap.size=b) (hl:xs.length≤100) (K:Wk w0 d (Ef w A xs.length c) (Ds w0 b ns w A c xs G o) []) (v:∀ n m,n < xs.length→m < xs.length→∀ (E:Nat→Value) w',Wk w0 w' (Ef w A xs.length c) (Ds w0 b ns w A c xs G o) []→At Tryz.prog 6 R (AL PP) (Fr 168 (BC E (GK b w (i:Int)++[(15,AI (n:Int)),(16,AI (m:Int))]))) w'):At Tryz.prog 6 R PP (Fr 168 (BC E (GK b w (i:Int)))) d:=by
 have hb:b < d.heap.size:=(K.tapeOk l 0 rfl).lt
 refine Ee K l 0 rfl [0,1,2,3,4,5,6,7,8,9] (Ef w A xs.length c) [(2,1,1),(7,1,1)] [(4,JD xs.length),(9,JD xs.length)] 2 (fun u hu=>hu.G) (fun p a=>?_) (fun p a X u hu k hf=>?_) fun X u hu k hf=>?_
 ·simp only [List.mem_cons,List.not_mem_nil,or_false] at a
  rcases a with rfl | rfl
  ·exact fun _ _ _ _ h=>h
  ·exact fun _ _ _ _ h=>h
 ·have q:=hu.tapeOk l 0 rfl
  simp only [List.mem_cons,List.not_mem_nil,or_false] at a
  rcases a with rfl | rfl
  ·exact Bn (xs:=[.tmp 139,.tmp 142]) (args:=[.pointer (some ⟨b,0,none⟩),AI (xs.length:Int)]) ((BM b ns xs.length u q (by omega) (by omega)).mono fun e w' ⟨y,s,j,g,f⟩=>⟨_,j,g,f,y,by omega,rfl⟩) rfl
  ·exact Bn (xs:=[.tmp 144,.tmp 147]) (args:=[.pointer (some ⟨b,0,none⟩),AI (xs.length:Int)]) ((BM b ns xs.length u q (by omega) (by omega)).mono fun e w' ⟨y,s,j,g,f⟩=>⟨_,j,g,f,y,by omega,rfl⟩) rfl
 obtain ⟨n,hn,e1⟩:JD xs.length (X 4) u:=hf 4 (by simp) rfl
 obtain ⟨m,hm,x⟩:JD xs.length (X 9) u:=hf 9 (by simp) rfl
 refine CI ((GK b w (i:Int))++[(143,X 4),(148,X 9)]) fun E2=>?_
 rw [e1,x]
 refine Dv hu [(10,0,0),(11,0,0)] (fun _=>(Ef w A xs.length c)) fun z r K5=>?_
 refine AU (GK b w (i:Int)++[(15,AI (n:Int)),(16,AI (m:Int))]) fun E5=>?_
 exact v n m hn hm E5 r K5
theorem y2 {R:Ending→World→Prop} {b:Nat} {ns:List Int} {H:Nat} {wl:Bool} {w w0 w1:World} {A:Option Addr} {c:Nat} {xs d:List En} {G:Nat→Prop} {E:Nat→Value} {i n m:Nat} (hn:n < xs.length) (hm:m < xs.length) (h0:w0.heap.size=b) (K:Wk w0 w1 (Ef w A xs.length c) (Ds w0 b ns w A c xs G d) []) (hk:∀ zs,zs.length=xs.length→(∀ z,z∈zs↔z∈xs)→∀ (E:Nat→Value) w',Wk w0 w' (Ef w A zs.length c) (Ds w0 b ns w A c zs G d) []→At Tryz.prog 6 R (AL Iy) (Fr 168 (BC E (GK b w (i:Int)))) w'):At Tryz.prog 6 R Iy (Fr 168 (BC E (GK b w (i:Int)++[(15,AI (n:Int)),(16,AI (m:Int))]))) w1:=by
 obtain ⟨g,rfl,_⟩:=K.H.rowAt (K.ix 2) (K.at 2 rfl) (by omega)
 obtain ⟨l,b0⟩:∃ y,xs[m]?=some y:=⟨_,List.getElem?_eq_getElem hm⟩
 obtain ⟨yn,a0⟩:∃ y,xs[n]?=some y:=⟨_,List.getElem?_eq_getElem hn⟩
 have elem:∀ {u:World},Wk w0 u (Ef w (some ⟨g,0,none⟩) xs.length c) (Ds w0 b ns w (some ⟨g,0,none⟩) c xs G d) []→∀ (k:Nat) y,xs[k]?=some y→u.rangeAt g (0 + k * 21) y.2∧y.2.length=21:=fun {u} f k y hy=>by
  obtain ⟨rs,h1,h2⟩:=f.H.rows (fun _ _ h=>h.2.1) (f.ix 2) (f.at 2 rfl)
  obtain ⟨r,h3,h4⟩:=JY h1 hy
  rcases h2 with h2 | ⟨g',off,h2,_,_,h5⟩
  ·rw [h2] at h3; cases h3
  ·obtain ⟨rfl,rfl⟩:g=g'∧0=off:=by simpa using h2
   have h6:=h4.1
   subst h6
   exact ⟨fun j v hv=>h5 k _ h3 j v hv,h4.2.1⟩
 have d0:∀ {u:World},Wk w0 u (Ef w (some ⟨g,0,none⟩) xs.length c) (Ds w0 b ns w (some ⟨g,0,none⟩) c xs G d) []→∀ (k:Nat) y,xs[k]?=some y→NU y y.2:=fun {u} f k y hy=>by
  obtain ⟨rs,h1,h2⟩:=f.H.rows (fun _ _ h=>h.2.1) (f.ix 2) (f.at 2 rfl)
  obtain ⟨r,h3,h4⟩:=JY h1 hy
  have h6:=h4.1
  subst h6
  exact h4
 have rm:=d0 K m l b0
 have rn:=d0 K n yn a0
 have keep:∀ (j:Nat),j≠17→∀ {a:Array Bool} {u:World},(fun a u=>a.size=20∧((a.getD 17 false=false∧Wk w0 u (Ef w (some ⟨g,0,none⟩) xs.length c) (Ds w0 b ns w (some ⟨g,0,none⟩) c xs G d) [])∨(a.getD 17 false=true∧a.getD 10 false=true∧a.getD 15 false=true∧Wk w0 u (Ef w (some ⟨g,0,none⟩) xs.length c) (Ds w0 b ns w (some ⟨g,0,none⟩) c (xs.set n l) G d) []))) a u→(fun a u=>a.size=20∧((a.getD 17 false=false∧Wk w0 u (Ef w (some ⟨g,0,none⟩) xs.length c) (Ds w0 b ns w (some ⟨g,0,none⟩) c xs G d) [])∨(a.getD 17 false=true∧a.getD 10 false=true∧a.getD 15 false=true∧Wk w0 u (Ef w (some ⟨g,0,none⟩) xs.length c) (Ds w0 b ns w (some ⟨g,0,none⟩) c (xs.set n l) G d) []))) (a.setIfInBounds j true) u:=fun j hj a u ⟨hs,h⟩=>by
  refine ⟨by rw [Array.size_setIfInBounds]; exact hs,?_⟩
  by_cases hb:j < a.size
  ·rw [LK hb,LK hb,LK hb,decide_eq_false hj,Bool.false_or]
   rcases h with h | ⟨h1,h2,h3,h4⟩
   ·exact .inl h
   ·exact .inr ⟨h1,by rw [h2,Bool.or_true],by rw [h3,Bool.or_true],h4⟩
  ·rw [show a.setIfInBounds j true=a by rw [Array.setIfInBounds,dif_neg hb]]
   exact h
 have s:∀ (j:Nat),(j=10∨j=15∨j=17)→∀ {a:Array Bool} {u:World},a.getD j true=false→(fun a u=>a.size=20∧((a.getD 17 false=false∧Wk w0 u (Ef w (some ⟨g,0,none⟩) xs.length c) (Ds w0 b ns w (some ⟨g,0,none⟩) c xs G d) [])∨(a.getD 17 false=true∧a.getD 10 false=true∧a.getD 15 false=true∧Wk w0 u (Ef w (some ⟨g,0,none⟩) xs.length c) (Ds w0 b ns w (some ⟨g,0,none⟩) c (xs.set n l) G d) []))) a u→Wk w0 u (Ef w (some ⟨g,0,none⟩) xs.length c) (Ds w0 b ns w (some ⟨g,0,none⟩) c xs G d) []:=fun j hj a u hl ⟨_,h⟩=>by
  rcases h with ⟨_,h⟩ | ⟨h1,h2,h3,_⟩
  ·exact h
  ·rcases hj with rfl | rfl | rfl
   ·rw [de h2] at hl; cases hl
   ·rw [de h3] at hl; cases hl
   ·rw [de h1] at hl; cases hl
 refine EV (AS Iy) ([0,1,2,3,4,5,6,7,8,9,10,11,12,13,14,15,16,17,18].length + 1) ?_
 refine Yj (C:=fun a u=>a.size=20∧((a.getD 17 false=false∧Wk w0 u (Ef w (some ⟨g,0,none⟩) xs.length c) (Ds w0 b ns w (some ⟨g,0,none⟩) c xs G d) [])∨(a.getD 17 false=true∧a.getD 10 false=true∧a.getD 15 false=true∧Wk w0 u (Ef w (some ⟨g,0,none⟩) xs.length c) (Ds w0 b ns w (some ⟨g,0,none⟩) c (xs.set n l) G d) []))) (Ext:=fun _ _=>True) [0,1,2,3,4,5,6,7,8,9,10,11,12,13,14,15,16,17,18] (Ef w (some ⟨g,0,none⟩) xs.length c) [(1,1,1),(4,1,1),(7,1,1),(12,1,1)] [9,10,14,15,16,17,18] (fun i=>match i with | 17=>[15] | _=>[]) (MD [(9,fun v _=>v=.pointer (some ⟨g,0 + m * 21,none⟩)),(10,fun v _=>v=.agg ⟨l.2⟩),(14,fun v _=>v=.pointer (some ⟨g,0 + n * 21,none⟩)),(15,fun v _=>v=.agg ⟨yn.2⟩),(16,fun v _=>v=.pointer (some ⟨g,0 + n * 21,none⟩)),(17,fun _ _=>True),(18,fun v _=>v=.pointer (some ⟨g,0 + m * 21,none⟩))]) 1 ⟨by kernel_rfl,.inl ⟨by kernel_rfl,K.below (Below.refl _ _).drew⟩⟩ (fun a u hu=>hu.2.elim (fun h=>h.2.G) fun h=>h.2.2.2.G) (fun _=>trivial) (fun _ _ _ _ _=>trivial) (fun j v u u' _ h=>Vd (Ext:=fun _ _=>True) (fun p hp=>?_) j v u u' trivial h) (fun j _ hj a u hu=>keep j (fun e=>by subst e; cases hj) hu) (fun j hj X a u c0 e0 q hf=>?_) (by kernel_rfl) (by intro _; kernel_rfl) (by intro _ _; kernel_rfl) (by intro _; kernel_rfl) fun X u q _ hf=>?_
 ·simp only [List.mem_cons,List.not_mem_nil,or_false] at hp
  rcases hp with rfl | rfl | rfl | rfl | rfl | rfl | rfl <;> exact fun _ _ _ _ h=>h
 ·simp only [List.mem_cons,List.not_mem_nil,or_false] at hj
  rcases hj with rfl | rfl | rfl | rfl | rfl | rfl | rfl
  ·exact AM.value (BZ (g:=g) (off:=0) (sz:=21) (k:=m) (len:=xs.length) (cap:=c) 25 (.tmp 156) (.tmp 157) hm Tryz.underlying25) ⟨keep 9 (by omega) q,trivial,rfl⟩
  ·have f:Wk w0 u (Ef w (some ⟨g,0,none⟩) xs.length c) (Ds w0 b ns w (some ⟨g,0,none⟩) c xs G d) []:=s 10 (by simp) c0 q
   refine AM.loadMid 59 (.tmp 158) (by kernel_rfl) (Eq.trans (b:=X 9) (by kernel_rfl) (hf 9 (by kernel_rfl) (by kernel_rfl))) l.2 (elem f m l b0).1 (by kernel_rfl) ?_ ⟨keep 10 (by omega) q,trivial,rfl⟩
   rw [(elem f m l b0).2]
   kernel_rfl
  ·exact AM.value (BZ (g:=g) (off:=0) (sz:=21) (k:=n) (len:=xs.length) (cap:=c) 25 (.tmp 161) (.tmp 162) hn Tryz.underlying25) ⟨keep 14 (by omega) q,trivial,rfl⟩
  ·have f:Wk w0 u (Ef w (some ⟨g,0,none⟩) xs.length c) (Ds w0 b ns w (some ⟨g,0,none⟩) c xs G d) []:=s 15 (by simp) c0 q
   refine AM.loadMid 59 (.tmp 163) (by kernel_rfl) (Eq.trans (b:=X 14) (by kernel_rfl) (hf 14 (by kernel_rfl) (by kernel_rfl))) yn.2 (elem f n yn a0).1 (by kernel_rfl) ?_ ⟨keep 15 (by omega) q,trivial,rfl⟩
   rw [(elem f n yn a0).2]
   kernel_rfl
  ·exact AM.value (BZ (g:=g) (off:=0) (sz:=21) (k:=n) (len:=xs.length) (cap:=c) 25 (.tmp 150) (.tmp 151) hn Tryz.underlying25) ⟨keep 16 (by omega) q,trivial,rfl⟩
  ·have f:Wk w0 u (Ef w (some ⟨g,0,none⟩) xs.length c) (Ds w0 b ns w (some ⟨g,0,none⟩) c xs G d) []:=s 17 (by simp) c0 q
   have i0:=e0 10 (by kernel_rfl)
   have g0:=e0 15 (by kernel_rfl)
   refine AM.over [(165,.pointer (some ⟨g,0 + n * 21,none⟩)),(159,.agg ⟨l.2⟩)] ⟨Eq.trans (b:=X 16) (by kernel_rfl) (hf 16 (by kernel_rfl) (by kernel_rfl)),Eq.trans (b:=X 10) (by kernel_rfl) (hf 10 (by kernel_rfl) (by kernel_rfl)),trivial⟩ ?_
   obtain ⟨w',hx,Hn,hb⟩:=Pc (P:=Tryz.prog) (o:=(AS Iy).getD 17 default) (ρ:=RS [(165,.pointer (some ⟨g,0 + n * 21,none⟩)),(159,.agg ⟨l.2⟩)] (Ax 168 (EP Tryz.prog 168 (AS Iy) (Ef w (some ⟨g,0,none⟩) xs.length c) [(1,1,1),(4,1,1),(7,1,1),(12,1,1)] (Dm [9,10,14,15,16,17,18] X) [0,1,2,3,4,5,6,7,8,9,10,11,12,13,14,15,16,17,18] (BC E (GK b w (i:Int)++[(15,AI (n:Int)),(16,AI (m:Int))])) 17))) f.H (f.ix 2) (f.at 2 rfl) n l l.2 hn rm (fun _ _ h=>h.2.1) (t:=59) (x:=.tmp 165) (y:=.tmp 159) (by kernel_rfl) (by kernel_rfl) (by kernel_rfl) (by kernel_rfl) rm.2.2
   have K2:=f.put 2 (by simp [Ds]) hb Hn
   refine AM.skip hx ⟨⟨by rw [Array.size_setIfInBounds]; exact q.1,.inr ?_⟩,trivial,trivial⟩
   rw [LK (by rw [q.1]; decide),LK (by rw [q.1]; decide),LK (by rw [q.1]; decide)]
   exact ⟨rfl,i0,g0,K2⟩
  ·exact AM.value (BZ (g:=g) (off:=0) (sz:=21) (k:=m) (len:=xs.length) (cap:=c) 25 (.tmp 153) (.tmp 154) hm Tryz.underlying25) ⟨keep 18 (by omega) q,trivial,rfl⟩
 ·obtain ⟨hs,h⟩:=q
  have K2:Wk w0 u (Ef w (some ⟨g,0,none⟩) xs.length c) (Ds w0 b ns w (some ⟨g,0,none⟩) c (xs.set n l) G d) []:=by
   rcases h with ⟨h,_⟩ | ⟨_,_,_,h⟩
   ·exact absurd h (by rw [show (List.foldl (fun b i=>Array.setIfInBounds b i true) (Array.replicate ([0,1,2,3,4,5,6,7,8,9,10,11,12,13,14,15,16,17,18].length + 1) false) [0,1,2,3,4,5,6,7,8,9,10,11,12,13,14,15,16,17,18]).getD 17 false=true by kernel_rfl]; decide)
   ·exact h
  have e1:X 18=.pointer (some ⟨g,0 + m * 21,none⟩):=hf 18 (by decide) (by decide)
  have e2:X 15=.agg ⟨yn.2⟩:=hf 15 (by decide) (by decide)
  refine CI ((GK b w (i:Int))++[(166,X 18),(164,X 15)]) fun E2=>?_
  rw [e1,e2]
  obtain ⟨w3,hx,Hn,hb⟩:=Pc (P:=Tryz.prog) (o:=(AS Iy).getD 19 default) (ρ:=Ax 168 (BC E2 ((GK b w (i:Int))++[(166,.pointer (some ⟨g,0 + m * 21,none⟩)),(164,.agg ⟨yn.2⟩)]))) K2.H (K2.ix 2) (K2.at 2 rfl) m yn yn.2 (by rw [List.length_set]; exact hm) rn (fun _ _ h=>h.2.1) (t:=59) (x:=.tmp 166) (y:=.tmp 164) (by kernel_rfl) (by kernel_rfl) (by kernel_rfl) (by kernel_rfl) rn.2.2
  refine LS (i:=19) ((AS Iy).getD 19 default) (by kernel_rfl) (by kernel_rfl) (by kernel_rfl) hx ?_
  have K3:Wk w0 w3 (Ef w (some ⟨g,0,none⟩) xs.length c) (Ds w0 b ns w (some ⟨g,0,none⟩) c ((xs.set n l).set m yn) G d) []:=K2.put 2 (by simp [Ds]) hb Hn
  refine Dv K3 [] (fun _=>(Ef w (some ⟨g,0,none⟩) xs.length c)) fun z w5 K5=>?_
  refine AU (GK b w (i:Int)) fun E5=>?_
  exact hk ((xs.set n l).set m yn) (by rw [List.length_set,List.length_set]) (my b0 a0) E5 w5 (by rw [List.length_set,List.length_set]; exact K5)
structure IV (H:Nat) (wl:Bool) (i j:Nat) (xs ys:List En):Prop where
 mem:∀ x∈xs,x∈ys
 ok:∀ x∈xs,M5 H wl x.1
 ins:∀ d∈Qm,d∈xs.map (·.1)
 scw:∃ es,Et es∧CV [119] CJ 20454 es∈xs.map (·.1)
 scs:∃ es,Et es∧CV [115] Bf 20454 es∈xs.map (·.1)
 rul:∀ k,k < i→∃ x,Hc k 20454 x∈xs.map (·.1)
 pay:0 < j→∃ x mode q,Jn 0 x mode q∈xs.map (·.1)
theorem IV.add {H:Nat} {wl:Bool} {i j:Nat} {xs b es:List En} (h:IV H wl i j xs b) (he:∀ d∈es.map (·.1),M5 H wl d):IV H wl i j (xs++es) (b++es):=by
 have up:∀ {d:Df},d∈xs.map (·.1)→d∈(xs++es).map (·.1):=fun {d} hd=>by rw [List.map_append]; exact List.mem_append_left _ hd
 refine ⟨fun x hx=>?_,fun x hx=>?_,fun d hd=>up (h.ins d hd),?_,?_,fun k c=>?_,fun f=>?_⟩
 ·rcases List.mem_append.1 hx with hx | hx
  ·exact List.mem_append_left _ (h.mem x hx)
  ·exact List.mem_append_right _ hx
 ·rcases List.mem_append.1 hx with hx | hx
  ·exact h.ok x hx
  ·exact he _ (List.mem_map_of_mem hx)
 ·obtain ⟨e,a,h2⟩:=h.scw
  exact ⟨e,a,up h2⟩
 ·obtain ⟨e,a,h2⟩:=h.scs
  exact ⟨e,a,up h2⟩
 ·obtain ⟨x,a⟩:=h.rul k c
  exact ⟨x,up a⟩
 ·obtain ⟨x,m,q,a⟩:=h.pay f
  exact ⟨x,m,q,up a⟩
theorem IV.same {H:Nat} {wl:Bool} {i j:Nat} {xs c b:List En} (h:IV H wl i j xs c) (he:∀ z,z∈b↔z∈xs):IV H wl i j b c:=by
 have up:∀ {d:Df},d∈xs.map (·.1)→d∈b.map (·.1):=fun {d} hd=>by
  obtain ⟨z,a,h2⟩:=List.mem_map.1 hd
  exact List.mem_map.2 ⟨z,(he z).2 a,h2⟩
 refine ⟨fun x hx=>h.mem x ((he x).1 hx),fun x hx=>h.ok x ((he x).1 hx),fun d hd=>up (h.ins d hd),?_,?_,fun k f=>?_,fun g=>?_⟩
 ·obtain ⟨e,a,h2⟩:=h.scw
  exact ⟨e,a,up h2⟩
 ·obtain ⟨e,a,h2⟩:=h.scs
  exact ⟨e,a,up h2⟩
 ·obtain ⟨x,a⟩:=h.rul k f
  exact ⟨x,up a⟩
 ·obtain ⟨x,m,q,a⟩:=h.pay g
  exact ⟨x,m,q,up a⟩
theorem ACE {R:Ending→World→Prop} {b:Nat} {ns:List Int} {H:Nat} {wl:Bool} {w w0 q:World} {A:Option Addr} {c:Nat} {xs d:List En} {G:Nat→Prop} {E:Nat→Value} (j:w0.heap.size=b) (a:0 < xs.length) (hl:xs.length≤30) (hi:IV H wl 4 1 xs d) (K:Wk w0 q (Ef w A xs.length c) (Ds w0 b ns w A c xs G d) []) (hR:∀ (A:Option Addr) (c:Nat) (xs d:List En) (G:Nat→Prop) (M:List Az) w',IV H wl 4 1 xs d→xs.length≤30→Wk w0 w' M (Ds w0 b ns w A c xs G d) []→R (.returned (.agg ⟨[.string ⟨⟨A4⟩⟩,.slice A xs.length c]⟩)) w'):At Tryz.prog 6 R Uk (Fr 168 (BC E (y8 b w++[(133,.pointer (some ⟨b,0,none⟩))]))) q:=by
 refine BE K j 0 rfl (args:=[.pointer (some ⟨b,0,none⟩),AI 4]) (BM b ns 4 _ (K.tapeOk j 0 rfl) (by omega) (by omega)) BQ.ok fun e u v h=>?_
 obtain ⟨k,hk,rfl,_,_⟩:=v
 refine ⟨_,rfl,?_⟩
 refine AB Uj h [] fun l g=>?_
 refine AU (GK b w (k:Int)) fun r=>?_
 refine Bd (by kernel_rfl) (fun E p=>∃ (i:Nat) (xs:List En) (s:Nat→Value),i≤3∧E=BC s (GK b w (i:Int))∧IV H wl 4 1 xs d∧0 < xs.length∧xs.length≤30∧Wk w0 p (Ef w A xs.length c) (Ds w0 b ns w A c xs G d) []) (fun E _=>AK (E 14)) ⟨k,xs,r,by omega,rfl,hi,a,hl,g⟩ ?_
 clear K h g hi a hl
 rintro E p ⟨i,xs,s,x,rfl,hi,a,hl,K1⟩ f
 refine AB Ui K1 [] fun u h=>?_
 refine AG (decide (0 < (i:Int))) (fun hc=>?_) (fun _=>?_)
 ·have y:0 < i:=by have:=of_decide_eq_true hc; omega
  refine AB PP h [] fun l g=>?_
  refine AU (GK b w (i:Int)) fun r=>?_
  refine y3 (H:=H) (wl:=wl) a j (by omega) g fun n m hn hm E4 w4 K4=>?_
  refine AB Iy K4 [] fun w5 K5=>?_
  refine AU (GK b w (i:Int)++[(15,AI (n:Int)),(16,AI (m:Int))]) fun E5=>?_
  refine y2 (H:=H) (wl:=wl) hn hm j K5 fun t hz o E6 w6 K6=>?_
  refine AB (AY Uj) K6 [] fun w7 z=>?_
  refine AU (GK b w (IntKind.i64.wrap ((i:Int) - 1))) fun E7=>?_
  rw [show IntKind.i64.wrap ((i:Int) - 1)=((i - 1:Nat):Int) by rw [IntWalk.i64_in _ (by omega)]; omega]
  refine f _ _ ⟨i - 1,t,E7,by omega,rfl,hi.same o,by omega,by omega,z⟩ ?_
  show AK (AI ((i - 1:Nat):Int)) < AK (AI (i:Int))
  simp only [AK]
  omega
 ·refine Af vo [⟨w.heap.size,0,[.string ⟨⟨A4⟩⟩,.slice A xs.length c],27,true⟩,⟨w.heap.size + 1,0,[.string ⟨⟨A4⟩⟩,.slice A xs.length c],27,true⟩] h [(1,0),(0,0)] fun l g=>?_
  exact AJ g (0,0) (.agg ⟨[.string ⟨⟨A4⟩⟩,.slice A xs.length c]⟩) (hR A c xs d G _ l hi hl g)
theorem y6 {R:Ending→World→Prop} {b:Nat} {ns:List Int} {H:Nat} {wl:Bool} {w w0 t:World} {A:Option Addr} {c:Nat} {xs a:List En} {G:Nat→Prop} {E:Nat→Value} {y v:Nat} (hH:0 < H) (o:H≤1000) (l:w0.heap.size=b) (hl:xs.length≤16) (hi:IV H wl 4 0 xs a) (K:Wk w0 t (JK w A xs.length c y v) (Ds w0 b ns w A c xs G a) []) (hR:∀ (A:Option Addr) (c:Nat) (xs a:List En) (G:Nat→Prop) (M:List Az) w',IV H wl 4 1 xs a→xs.length≤30→Wk w0 w' M (Ds w0 b ns w A c xs G a) []→R (.returned (.agg ⟨[.string ⟨⟨A4⟩⟩,.slice A xs.length c]⟩)) w'):At Tryz.prog 6 R PQ (Fr 168 (BC E (JW b H w ((0:Nat):Int)))) t:=by
 refine Bd (by kernel_rfl) (fun E s=>∃ (i:Nat) (A:Option Addr) (c:Nat) (xs a:List En) (G:Nat→Prop) (E0:Nat→Value),i≤2∧E=BC E0 (JW b H w (i:Int))∧IV H wl 4 i xs a∧xs.length≤16 + i∧Wk w0 s (JK w A xs.length c y v) (Ds w0 b ns w A c xs G a) []) (fun E _=>3 - AK (E 13)) ⟨0,A,c,xs,a,G,E,by omega,rfl,hi,hl,K⟩ ?_
 clear K hi hl
 rintro E s ⟨i,A,c,xs,a,G,E0,b0,rfl,hi,hl,K1⟩ g
 refine AB iy K1 [] fun w2 K2=>?_
 refine BE K2 l 0 rfl (args:=[.pointer (some ⟨b,0,none⟩),AI 2]) (BM b ns 2 _ (K2.tapeOk l 0 rfl) (by omega) (by omega)) BQ.ok fun e w3 m K3=>?_
 obtain ⟨k,hk,rfl,_,_⟩:=m
 refine ⟨_,rfl,?_⟩
 refine AB Um K3 [] fun w4 z=>?_
 refine AG (decide ((i:Int)≤(k:Int))) (fun hc=>?_) (fun hc=>?_)
 ·have a0:i≤1:=by have:=of_decide_eq_true hc; omega
  refine AB Ul z [] fun w5 p=>?_
  refine AU (JW b H w (i:Int)) fun E5=>?_
  refine y4 (by omega) hH o l (by omega) p fun A' c' es G' E6 w6 m he K6=>?_
  refine AB (AY PQ) K6 [] fun w7 K7=>?_
  refine AU (JW b H w (IntKind.i64.wrap ((i:Int) + 1))) fun E7=>?_
  rw [show IntKind.i64.wrap ((i:Int) + 1)=((i + 1:Nat):Int) by rw [IntWalk.i64_in _ (by omega)]; omega]
  obtain ⟨d,hd,x,mode,q,rfl,q0,q6,q7,u⟩:=m
  rw [IntWalk.i64_in _ (by omega)] at u
  have f:=hi.add (es:=es) fun d' j=>by
   rw [hd,List.mem_singleton] at j
   rw [j]
   exact .pay i x mode q (by omega) q0 q6 q7 u
  refine g _ _ ⟨i + 1,A',c',xs++es,a++es,G',E7,by omega,rfl,⟨f.mem,f.ok,f.ins,f.scw,f.scs,f.rul,fun _=>?_⟩,by rw [List.length_append]; omega,K7⟩ ?_
  ·by_cases h:0 < i
   ·exact f.pay h
   ·obtain rfl:i=0:=by omega
    exact ⟨x,mode,q,by rw [List.map_append,hd]; simp⟩
  ·show 3 - AK (AI ((i + 1:Nat):Int)) < 3 - AK (AI (i:Int))
   simp only [AK]
   omega
 ·have n:0 < i:=by have:=of_decide_eq_false hc; omega
  refine AB Uk z [] fun w5 p=>?_
  refine AU (y8 b w++[(133,.pointer (some ⟨b,0,none⟩))]) fun E5=>?_
  refine ACE l ?_ (by omega) ⟨hi.mem,hi.ok,hi.ins,hi.scw,hi.scs,hi.rul,fun _=>hi.pay n⟩ (p.pk [0,1] [0,1,2,3]) hR
  have:=hi.ins _ (List.mem_cons_self ..)
  cases xs with
  | nil=>cases this
  | cons x r=>exact Nat.succ_pos _
theorem y1 {R:Ending→World→Prop} {b:Nat} {ns:List Int} {H:Nat} {wl:Bool} {w w0 w1:World} {A:Option Addr} {c:Nat} {xs a:List En} {G:Nat→Prop} {E:Nat→Value} {g f:Nat} (hH:0 < H) (d0:H≤1000) (y:w0.heap.size=b) (hl:xs.length≤8) (hi:IV H wl 0 0 xs a) (K:Wk w0 w1 (JK w A xs.length c g f) (Ds w0 b ns w A c xs G a) []) (hR:∀ (A:Option Addr) (c:Nat) (xs a:List En) (G:Nat→Prop) (M:List Az) w',IV H wl 4 1 xs a→xs.length≤30→Wk w0 w' M (Ds w0 b ns w A c xs G a) []→R (.returned (.agg ⟨[.string ⟨⟨A4⟩⟩,.slice A xs.length c]⟩)) w'):At Tryz.prog 6 R Sd (Fr 168 (BC E (Ss b H wl w g f ((0:Nat):Int)))) w1:=by
 refine Bd (by kernel_rfl) (fun E wx=>∃ (i:Nat) (A:Option Addr) (c:Nat) (xs a:List En) (G:Nat→Prop) (E0:Nat→Value),i≤4∧E=BC E0 (Ss b H wl w g f (i:Int))∧IV H wl i 0 xs a∧xs.length≤8 + 2 * i∧Wk w0 wx (JK w A xs.length c g f) (Ds w0 b ns w A c xs G a) []) (fun E _=>5 - AK (E 10)) ⟨0,A,c,xs,a,G,E,by omega,rfl,hi,hl,K⟩ ?_
 clear K hi hl
 rintro E wx ⟨i,A,c,xs,a,G,E0,j0,rfl,hi,hl,K1⟩ q
 refine AB Up K1 [] fun w2 s=>?_
 refine AG (decide ((i:Int) < 4)) (fun hc=>?_) (fun hc=>?_)
 ·have b0:i < 4:=by have:=of_decide_eq_true hc; omega
  have l:∀ (n:Int) (E:Nat→Value) (u:World),(n=(i:Int) + 1∨(wl=true∧n=5))→Wk w0 u (JK w A xs.length c g f) (Ds w0 b ns w A c xs G a) []→At Tryz.prog 6 R Ji (Fr 168 (BC E (Hh b H wl w g f (i:Int) n ((0:Nat):Int)))) u:=fun n E u hn m=>by
   refine Bd (by kernel_rfl) (fun E wx=>∃ (v:Nat) (A:Option Addr) (c:Nat) (xs a:List En) (G:Nat→Prop) (E0:Nat→Value),v≤2∧E=BC E0 (Hh b H wl w g f (i:Int) n (v:Int))∧IV H wl i 0 xs a∧(0 < v→∃ x,Hc i 20454 x∈xs.map (·.1))∧xs.length≤8 + 2 * i + v∧Wk w0 wx (JK w A xs.length c g f) (Ds w0 b ns w A c xs G a) []) (fun E _=>3 - AK (E 12)) ⟨0,A,c,xs,a,G,E,by omega,rfl,hi,fun h=>absurd h (by omega),hl,m⟩ ?_
   clear K1 s m hi hl
   rintro E wx ⟨v,A,c,xs,a,G,E0,g0,rfl,hi,a0,hl,K1⟩ o
   refine AB i4 K1 [] fun w2 s=>?_
   refine BE s y 0 rfl (args:=[.pointer (some ⟨b,0,none⟩),AI 3]) (BM b ns 3 _ (s.tapeOk y 0 rfl) (by omega) (by omega)) BQ.ok fun e w3 hq m=>?_
   obtain ⟨k,hk,rfl,_,_⟩:=hq
   refine ⟨_,rfl,?_⟩
   refine AB iz m [] fun w4 K4=>?_
   refine AG (decide ((v:Int)≤IntKind.i64.wrap (Int.tdiv (k:Int) 2))) (fun hc=>?_) (fun hc=>?_)
   ·have i0:v≤1:=by
     have h1:=of_decide_eq_true hc
     have h2:k=0∨k=1∨k=2:=by omega
     have h3:IntKind.i64.wrap (Int.tdiv (k:Int) 2)≤1:=by rcases h2 with rfl | rfl | rfl <;> decide
     omega
    refine AB Un K4 [] fun w5 p=>?_
    refine AU (Hh b H wl w g f (i:Int) n (v:Int)) fun E5=>?_
    refine y5 (wl:=wl) b0 hH d0 y (by omega) p fun A' c' es G' z t hq he r=>?_
    refine AB (AY Ji) r [] fun w7 K7=>?_
    refine AU (Hh b H wl w g f (i:Int) n (IntKind.i64.wrap ((v:Int) + 1))) fun E7=>?_
    rw [show IntKind.i64.wrap ((v:Int) + 1)=((v + 1:Nat):Int) by rw [IntWalk.i64_in _ (by omega)]; omega]
    obtain ⟨d,hd,x,rfl,q8⟩:=hq
    have h1:=hi.add (es:=es) fun d' c0=>by
     rw [hd,List.mem_singleton] at c0
     rw [c0]
     refine .rule i _ x n b0 ?_ hn q8
     obtain rfl | rfl:v=0∨v=1:=by omega
     ·exact .inl (by decide)
     ·exact .inr (by decide)
    refine o _ _ ⟨v + 1,A',c',xs++es,a++es,G',E7,by omega,rfl,h1,fun _=>?_,by rw [List.length_append]; omega,K7⟩ ?_
    ·by_cases h:0 < v
     ·obtain ⟨x',h2⟩:=a0 h
      exact ⟨x',by rw [List.map_append]; exact List.mem_append_left _ h2⟩
     ·obtain rfl:v=0:=by omega
      refine ⟨x,?_⟩
      rw [List.map_append,hd]
      exact List.mem_append_right _ (List.mem_singleton.2 (by rw [show IntKind.i64.wrap (20454 + IntKind.i64.wrap (5 * ((0:Nat):Int)))=20454 by decide]))
    ·show 3 - AK (AI ((v + 1:Nat):Int)) < 3 - AK (AI (v:Int))
     simp only [AK]
     omega
   ·have e0:0 < v:=by
     have h1:=of_decide_eq_false hc
     have h2:k=0∨k=1∨k=2:=by omega
     have h3:0≤IntKind.i64.wrap (Int.tdiv (k:Int) 2):=by rcases h2 with rfl | rfl | rfl <;> decide
     omega
    refine AB (AY Sd) K4 [] fun w5 p=>?_
    refine AU (Ss b H wl w g f (IntKind.i64.wrap ((i:Int) + 1))) fun E5=>?_
    rw [show IntKind.i64.wrap ((i:Int) + 1)=((i + 1:Nat):Int) by rw [IntWalk.i64_in _ (by omega)]; omega]
    refine q _ _ ⟨i + 1,A,c,xs,a,G,E5,by omega,rfl,⟨hi.mem,hi.ok,hi.ins,hi.scw,hi.scs,fun k hk=>?_,fun h=>absurd h (by omega)⟩,by omega,p⟩ ?_
    ·by_cases h:k < i
     ·exact hi.rul k h
     ·obtain rfl:k=i:=by omega
      exact a0 e0
    ·show 5 - AK (AI ((i + 1:Nat):Int)) < 5 - AK (AI (i:Int))
     simp only [AK]
     omega
  have j:∀ (E:Nat→Value) (u:World),Wk w0 u (JK w A xs.length c g f) (Ds w0 b ns w A c xs G a) []→At Tryz.prog 6 R Ji (Fr 168 (BC E (Hh b H wl w g f (i:Int) (IntKind.i64.wrap ((i:Int) + 1)) ((0:Nat):Int)))) u:=fun E u m=>by
   rw [IntWalk.i64_in ((i:Int) + 1) (by omega)]
   exact l _ E u (.inl rfl) m
  cases wl with
  | true=>
   refine AB i5 s [] fun w3 m=>?_
   refine BE m y 0 rfl (args:=[.pointer (some ⟨b,0,none⟩),AI 4]) (BM b ns 4 _ (m.tapeOk y 0 rfl) (by omega) (by omega)) BQ.ok fun e w4 hq K4=>?_
   obtain ⟨k,hk,rfl,_,_⟩:=hq
   refine ⟨_,rfl,?_⟩
   refine AB Uo K4 [] fun w5 p=>?_
   refine AG ((k:Int) == 3) (fun _=>?_) (fun _=>?_)
   ·refine AB Ji p [] fun t r=>?_
    refine AU (Hh b H true w g f (i:Int) 5 ((0:Nat):Int)) fun z=>?_
    exact l 5 z t (.inr ⟨rfl,rfl⟩) r
   ·refine AB Ji p [] fun t r=>?_
    refine AU (Hh b H true w g f (i:Int) (IntKind.i64.wrap ((i:Int) + 1)) ((0:Nat):Int)) fun z=>?_
    exact j z t r
  | false=>
   refine AB Uo s [] fun w5 p=>?_
   refine AG false (fun h=>absurd h Bool.false_ne_true) (fun _=>?_)
   refine AB Ji p [] fun t r=>?_
   refine AU (Hh b H false w g f (i:Int) (IntKind.i64.wrap ((i:Int) + 1)) ((0:Nat):Int)) fun z=>?_
   exact j z t r
 ·obtain rfl:i=4:=by have:=of_decide_eq_false hc; omega
  refine AB PQ s [] fun w3 m=>?_
  refine AU (JW b H w ((0:Nat):Int)) fun E3=>?_
  exact y6 hH d0 y hl hi m hR
structure zA (ds:List Df):Prop where
 ins:∀ d∈Qm,d∈ds
 scw:∃ es,Et es∧CV [119] CJ 20454 es∈ds
 scs:∃ es,Et es∧CV [115] Bf 20454 es∈ds
 rul:∀ k,k < 4→∃ x,Hc k 20454 x∈ds
 pay:∃ x mode q,Jn 0 x mode q∈ds
def lb (b:Nat) (ns:List Int) (H:Nat) (wl:Bool) (w:World) (e:Ending) (w':World):Prop:=∃ A c ds,e=.returned (.agg ⟨[.string ⟨⟨A4⟩⟩,.slice A ds.length c]⟩)∧(∀ u,CE b w' u→rowsDf u A ds)∧ds.length≤c∧ds.length≤30∧(∀ d∈ds,M5 H wl d)∧zA ds∧BW b ns w'∧CE b w w'
def II:List En:=Qm.map fun d=>(d,Be d none 0 none 0)
theorem tU:∀ x∈II,∀ (G:Nat→Prop) (u:World),FC G u x.1 x.2:=fun x hx G u=>by
 obtain ⟨d,hd,rfl⟩:=List.mem_map.1 hx
 have h:d.ents=[]∧d.body=BO:=by
  simp only [Qm,List.mem_cons,List.not_mem_nil,or_false] at hd
  rcases hd with rfl | rfl | rfl | rfl | rfl <;> exact ⟨rfl,rfl⟩
 have a:AW d.body none 0=AW BO none 0:=by rw [h.2]
 refine Qt h.1 ?_
 rw [h.2]
 exact Xc
theorem y7 {b:Nat} {ns:List Int} {H:Nat} {wl:Bool} {w w0 w':World} {A:Option Addr} {c:Nat} {xs a:List En} {G:Nat→Prop} {M:List Az} (f:w0.heap.size=b) (hw:Below w0.heap.size w0 w) (hb:b < w.heap.size) (hi:IV H wl 4 1 xs a) (hl:xs.length≤30) (K:Wk w0 w' M (Ds w0 b ns w A c xs G a) []):lb b ns H wl w (.returned (.agg ⟨[.string ⟨⟨A4⟩⟩,.slice A xs.length c]⟩)) w':=by
 refine ⟨A,c,xs.map (·.1),by rw [List.length_map],fun u hu=>?_,?_,by rw [List.length_map]; exact hl,fun d hd=>?_,⟨hi.ins,hi.scw,hi.scs,hi.rul,hi.pay (by decide)⟩,K.tapeOk f 0 rfl,(K.out f hw).2⟩
 ·obtain ⟨rs,y,h2⟩:=K.H.rows (fun _ _ h=>h.2.1) (K.ix 2) (K.at 2 rfl)
  have ht:(Ke G a).P w':=K.H.all (K.ix 3) _ (K.at 3 rfl)
  have hG:∀ g,G g→g < w'.heap.size∧g≠b:=fun g hg=>⟨(K.H.lo (K.ix 3) _ (K.at 3 rfl) g hg).2,by have:=K.newerT f 1 (t:=Ke G a) rfl hg; omega⟩
  have o:∀ (l:List En) (rs:List (List Value)),(∀ x∈l,x∈a)→EF NU l rs→Ev Ca u (l.map (·.1)) rs:=by
   intro l
   induction l with
   | nil=>intro rs _ h; cases rs with
    | nil=>rfl
    | cons r q=>cases h
   | cons x l ih=>intro rs hm h; cases rs with
    | nil=>cases h
    | cons r q=>
     refine ⟨r,q,rfl,?_,ih q (fun x hx=>hm x (by simp [hx])) h.2⟩
     rw [h.1.1]
     exact (ht x (hm x (by simp))).keep hu.size fun g hg m=>⟨trivial,hu.block g m (hG g hg).2⟩
  refine ⟨rs,o xs rs hi.mem y,?_⟩
  rcases h2 with h2 | ⟨g,off,p,h3,e,s⟩
  ·exact .inl h2
  ·have n:g≠b:=by
    have hx:0 < xs.length:=by
     have:=hi.ins _ (List.mem_cons_self ..)
     cases xs with
     | nil=>cases this
     | cons x r=>exact Nat.succ_pos _
    obtain ⟨g',h6,_⟩:=K.H.rowAt (K.ix 2) (K.at 2 rfl) hx
    rw [p] at h6
    obtain ⟨rfl,rfl⟩:g=g'∧off=0:=by simpa using h6
    have:=K.newerT f 0 (t:=N1 A c xs) rfl (k:=g) (by rw [p]; exact (rfl:some (⟨g,0,none⟩:Addr)=some ⟨g,0,none⟩))
    omega
   refine .inr ⟨g,off,p,trivial,Nat.lt_of_lt_of_le e hu.size,fun i r hr j v hv=>?_⟩
   have z:=s i r hr j v hv
   unfold World.cell? at z ⊢
   rw [hu.block g e n]
   exact z
 ·obtain ⟨rs,y,h2⟩:(N1 A c xs).P w':=K.H.all (K.ix 2) _ (K.at 2 rfl)
  have h3:rs.length=xs.length:=FO y
  rw [List.length_map]
  rcases h2.2 with ⟨e,s⟩ | ⟨g,cap,a0,e,_,_,s,_⟩
  ·omega
  ·cases e
   omega
 ·obtain ⟨x,hx,rfl⟩:=List.mem_map.1 hd
  exact hi.ok x hx
theorem ADk (b:Nat) (ns:List Int) (H:Nat) (wl:Bool) (hH:0 < H) (b0:H≤1000) (w:World) (hT:BW b ns w):Calls Tryz.prog 6 ([.pointer (some ⟨b,0,none⟩),AI (H:Int),.bool wl]:List Value).toArray w (lb b ns H wl w):=by
 refine AR (args:=[.pointer (some ⟨b,0,none⟩),AI (H:Int),.bool wl]) (fn:=Tryz.f6) (c:=Yb) (n:=168) ?_
 obtain ⟨w0,l,K0⟩:=Wk.tape hT
 have hw:=K0.B
 have hb:=hT.lt
 refine Af qu [⟨w.heap.size,0,[.string ⟨⟨[]⟩⟩,.slice none 0 0],27,true⟩,⟨w.heap.size + 1,0,[.string ⟨⟨A4⟩⟩,.slice none 0 0],27,true⟩] K0 [(1,0)] fun w1 K1=>?_
 refine AQ K1 (args:=[]) (Hw _) fun w2 K2=>?_
 refine AB qt K2 [] fun w3 K3=>?_
 refine AQ K3 (args:=[]) (KJ _) fun w4 K4=>?_
 refine AB qs K4 [] fun w5 K5=>?_
 refine AQ K5 (args:=[]) (GC _) fun w6 K6=>?_
 refine AB qr K6 [] fun w7 K7=>?_
 refine AQ K7 (args:=[]) (Hw _) fun v Kz=>?_
 refine Af Se [⟨w.heap.size,0,[.string ⟨⟨[]⟩⟩,.slice none 0 0],27,true⟩,⟨w.heap.size + 1,0,[.string ⟨⟨A4⟩⟩,.slice (some ⟨v.heap.size,0,none⟩) 5 5],27,true⟩,⟨v.heap.size,0,(II.map (·.2)).flatten,59,true⟩] Kz [(1,1)] fun w8 K8=>?_
 have y:=K8.entRows (n:=21) 2 NU II (II.map (·.2)) ⟨⟨rfl,rfl,rfl⟩,⟨rfl,rfl,rfl⟩,⟨rfl,rfl,rfl⟩,⟨rfl,rfl,rfl⟩,⟨rfl,rfl,rfl⟩,trivial⟩ rfl (by decide) (by decide) rfl
 have I8:Wk w0 w8 [⟨w.heap.size,0,[.string ⟨⟨[]⟩⟩,.slice none 0 0],27,true⟩,⟨w.heap.size + 1,0,[.string ⟨⟨A4⟩⟩,.slice (some ⟨v.heap.size,0,none⟩) 5 5],27,true⟩] (Ds w0 b ns w (some ⟨v.heap.size,0,none⟩) 5 II (fun _=>False) II) []:=y.freshT y (Ke (fun _=>False) II) (fun x hx=>tU x hx _ _) (fun _ h=>h.elim)
 refine AU (LT b H wl w) fun E8=>?_
 refine ACG (H:=H) (wl:=wl) l (show II.length≤100 by decide) I8 fun A c es G E9 w9 hq he K9=>?_
 obtain ⟨e1,e2,g,o1,o2⟩:=hq
 have hi:IV H wl 0 0 (II++es) (II++es):=by
  refine ⟨fun x hx=>hx,fun x hx=>?_,fun d hd=>?_,⟨e1,o1,?_⟩,⟨e2,o2,?_⟩,fun k hk=>absurd hk (by omega),fun h=>absurd h (by omega)⟩
  ·rcases List.mem_append.1 hx with hx | hx
   ·obtain ⟨d,hd,rfl⟩:=List.mem_map.1 hx
    exact .ins d hd
   ·have:=List.mem_map_of_mem (f:=(·.1)) hx
    rw [g] at this
    simp only [List.mem_cons,List.not_mem_nil,or_false] at this
    rcases this with h | h
    ·show M5 H wl x.1
     rw [h]
     exact .sc _ _ _ e1 (.inl ⟨rfl,rfl⟩) (.inl rfl) o1
    ·show M5 H wl x.1
     rw [h]
     exact .sc _ _ _ e2 (.inr ⟨rfl,rfl⟩) (.inl rfl) o2
  ·rw [List.map_append]
   exact List.mem_append_left _ (by rw [II,List.map_map]; exact List.mem_map.2 ⟨d,hd,rfl⟩)
  ·rw [List.map_append,g]; simp
  ·rw [List.map_append,g]; simp
 have a:∀ (A:Option Addr) (c:Nat) (xs t:List En) (G:Nat→Prop) (E:Nat→Value) (q:Nat) (u:World),IV H wl 0 0 xs t→xs.length≤8→Wk w0 u [⟨w.heap.size,0,[.string ⟨⟨[]⟩⟩,.slice none 0 0],27,true⟩,⟨w.heap.size + 1,0,[.string ⟨⟨A4⟩⟩,.slice A xs.length c],27,true⟩,⟨q,0,[.string ⟨⟨[114,49]⟩⟩,.string ⟨⟨[114,50]⟩⟩,.string ⟨⟨[114,51]⟩⟩,.string ⟨⟨[114,52]⟩⟩],9,true⟩] (Ds w0 b ns w A c xs G t) []→At Tryz.prog 6 (lb b ns H wl w) La (Fr 168 (BC E ((LT b H wl w)++[(51,.slice (some ⟨q,0,none⟩) 4 4)]))) u:=fun A c xs t G E q u hi hl Ku=>by
  refine AQ Ku (args:=[]) (GB _) fun v1 J1=>?_
  refine AB (AC La) J1 [] fun v2 J2=>?_
  refine AQ J2 (args:=[]) (GC _) fun v3 J3=>?_
  refine AB (AC (AC La)) J3 [] fun v4 J4=>?_
  refine AQ J4 (args:=[]) (KJ _) fun v5 J5=>?_
  refine AB (AC (AC (AC La))) J5 [] fun v6 J6=>?_
  refine AQ J6 (args:=[]) (Gn _) fun v7 J7=>?_
  refine Af Sd (JK w A xs.length c q v7.heap.size) J7 [] fun v8 y=>?_
  refine AU (Ss b H wl w q v7.heap.size ((0:Nat):Int)) fun E8=>?_
  exact y1 hH b0 l hl hi y fun A c xs t G M w' h1 h2 h3=>y7 l hw hb h1 h2 h3
 have h7:(II++es).length=7:=by rw [List.length_append,he]; rfl
 refine AB qq K9 [] fun k0 s=>?_
 refine BE s l 0 rfl (args:=[.pointer (some ⟨b,0,none⟩),AI 3]) (BM b ns 3 _ (s.tapeOk l 0 rfl) (by omega) (by omega)) BQ.ok fun e j0 hq g0=>?_
 obtain ⟨k,hk,rfl,_,_⟩:=hq
 refine ⟨_,rfl,?_⟩
 refine AB bA g0 [] fun o r=>?_
 refine AG ((k:Int) == 0) (fun _=>?_) (fun _=>?_)
 ·refine AB az r [] fun i0 e0=>?_
  refine AU (LT b H wl w) fun n0=>?_
  refine ACF (H:=H) (wl:=wl) l (by omega) e0 fun A' c' c0 G' m0 m a0 l0 d0=>?_
  obtain ⟨d,hd,e3,rfl,o3⟩:=a0
  refine Af La [⟨w.heap.size,0,[.string ⟨⟨[]⟩⟩,.slice none 0 0],27,true⟩,⟨w.heap.size + 1,0,[.string ⟨⟨A4⟩⟩,.slice A' ((II++es)++c0).length c'],27,true⟩,⟨m.heap.size,0,[.string ⟨⟨[114,49]⟩⟩,.string ⟨⟨[114,50]⟩⟩,.string ⟨⟨[114,51]⟩⟩,.string ⟨⟨[114,52]⟩⟩],9,true⟩] d0 [] fun z i=>?_
  refine AU ((LT b H wl w)++[(51,.slice (some ⟨m.heap.size,0,none⟩) 4 4)]) fun j=>?_
  refine a _ _ _ _ _ j _ _ (hi.add fun d' p=>?_) (by rw [List.length_append]; omega) i
  rw [hd,List.mem_singleton] at p
  rw [p]
  exact .sc _ _ _ e3 (.inl ⟨rfl,rfl⟩) (.inr rfl) o3
 ·refine Af La [⟨w.heap.size,0,[.string ⟨⟨[]⟩⟩,.slice none 0 0],27,true⟩,⟨w.heap.size + 1,0,[.string ⟨⟨A4⟩⟩,.slice A (II++es).length c],27,true⟩,⟨o.heap.size,0,[.string ⟨⟨[114,49]⟩⟩,.string ⟨⟨[114,50]⟩⟩,.string ⟨⟨[114,51]⟩⟩,.string ⟨⟨[114,52]⟩⟩],9,true⟩] r [] fun z i=>?_
  refine AU ((LT b H wl w)++[(51,.slice (some ⟨o.heap.size,0,none⟩) 4 4)]) fun j=>?_
  exact a _ _ _ _ _ j _ _ hi (by omega) i
end Go.Proofs.YtkjbdagicjbjjaaGreat

/- Contracts of functions, part 27. -/
import Derived.Test.YtkjbdagicjbjjaaGreatTs24
import Derived.Test.YtkjbdagicjbjjaaGreatTs20
set_option linter.all false
namespace Go.Proofs.YtkjbdagicjbjjaaGreat
open Go.RowKit
set_option maxRecDepth 100000
set_option maxHeartbeats 2000000
theorem pd {α:Type} {l:List α} {m n:Nat} {x y:α} (hm:l[m]?=some x) (hn:l[n]?=some y) (z:α):z∈(l.set n x).set m y↔z∈l:=by
 have a:=(List.getElem?_eq_some_iff.1 hm).1
 have c:=(List.getElem?_eq_some_iff.1 hn).1
 constructor
 ·intro h
  rcases List.mem_or_eq_of_mem_set h with h | rfl
  ·rcases List.mem_or_eq_of_mem_set h with h | rfl
   ·exact h
   exact List.mem_of_getElem? hm
  exact List.mem_of_getElem? hn
 intro h
 obtain ⟨k,b⟩:=List.mem_iff_getElem?.1 h
 by_cases hkm:k=m
 ·subst hkm
  rw [hm] at b
  obtain rfl:=Option.some.inj b
  by_cases hmn:k=n
  ·subst hmn
   rw [hm] at hn
   obtain rfl:=Option.some.inj hn
   exact List.mem_of_getElem? (i:=k) (by rw [List.getElem?_set_self (by simpa using a)])
  exact List.mem_of_getElem? (i:=n) (by rw [List.getElem?_set_ne hmn,List.getElem?_set_self c])
 by_cases hkn:k=n
 ·subst hkn
  rw [hn] at b
  obtain rfl:=Option.some.inj b
  exact List.mem_of_getElem? (i:=m) (by rw [List.getElem?_set_self (by simpa using a)])
 exact List.mem_of_getElem? (i:=k) (by rw [List.getElem?_set_ne (fun e=>hkm e.symm),List.getElem?_set_ne (fun e=>hkn e.symm),b])
theorem Gu {a:Array Bool} {i j:Nat} (h:i < a.size):(a.setIfInBounds i true).getD j false=(decide (i=j) || a.getD j false):=by
 rw [Array.getD_eq_getD_getElem?,Array.getD_eq_getD_getElem?,Array.getElem?_setIfInBounds]
 by_cases hij:i=j
 ·simp [hij] at h ⊢
  simp [h]
 simp [hij]
theorem OT {a:Array Bool} {j:Nat} (h:a.getD j false=true):a.getD j true=true:=by
 rw [Array.getD_eq_getD_getElem?] at h ⊢
 cases hl:a[j]? with
 | none=>rfl
 | some v=>rw [hl] at h; exact h
theorem AN.skip {P:Program} {o:Oper} {ρ:Operand→Value} {w w':World} {K:Value→World→Prop} (hx:(execOp ρ o).run P w=.ok .skip w') (a:K undef w'):AN P o ρ w K:=by
 unfold AN
 rw [hx]
 exact a
attribute [local irreducible] BD BP AC AD AF Ar AZ AM Aw Bk C6 BV Fo EE C5 BO At Fr
theorem ABk {R:Ending→World→Prop} {b:Nat} {ns:List Int} {H:Nat} {wl:Bool} {w w0 d:World} {A:Option Addr} {c:Nat} {xs o:List EI} {G:Nat→Prop} {E:Nat→Value} {i:Nat} (t:0 < xs.length) (l:(ε w0)=b) (hl:xs.length≤100) (K:Wk w0 d (FE w A xs.length c) (EA w0 b ns w A c xs G o) []) (v:∀ n m,n < xs.length→m < xs.length→∀ (E:Nat→Value) w',Wk w0 w' (FE w A xs.length c) (EA w0 b ns w A c xs G o) []→At Tryz.prog 6 R (AM Ql) (Fr 168 (BE E (Gq b w (i:Int)++[(15,δ (n:Int)),(16,δ (m:Int))]))) w'):At Tryz.prog 6 R Ql (Fr 168 (BE E (Gq b w (i:Int)))) d:=by
 have hb:b < (ε d):=(K.tapeOk l 0 rfl).lt
 refine Ek K l 0 rfl [0,1,2,3,4,5,6,7,8,9] (FE w A xs.length c) [(2,1,1),(7,1,1)] [(4,Io xs.length),(9,Io xs.length)] 2 (fun u hu=>hu.G) (fun p a=>?_) (fun p a X u hu k hf=>?_) fun X u hu k hf=>?_
 ·simp only [List.mem_cons,List.not_mem_nil,or_false] at a
  rcases a with rfl | rfl
  ·exact fun _ _ _ _ h=>h
  exact fun _ _ _ _ h=>h
 ·have q:=hu.tapeOk l 0 rfl
  simp only [List.mem_cons,List.not_mem_nil,or_false] at a
  rcases a with rfl | rfl
  ·exact Bn (xs:=[.tmp 139,.tmp 142]) (args:=[ζ b,δ (xs.length:Int)]) ((BR b ns xs.length u q (by omega) (by omega)).mono fun e w' ⟨y,s,j,g,f⟩=>⟨_,j,g,f,y,by omega,rfl⟩) rfl
  exact Bn (xs:=[.tmp 144,.tmp 147]) (args:=[ζ b,δ (xs.length:Int)]) ((BR b ns xs.length u q (by omega) (by omega)).mono fun e w' ⟨y,s,j,g,f⟩=>⟨_,j,g,f,y,by omega,rfl⟩) rfl
 obtain ⟨n,hn,e1⟩:Io xs.length (X 4) u:=hf 4 (by simp) rfl
 obtain ⟨m,hm,x⟩:Io xs.length (X 9) u:=hf 9 (by simp) rfl
 refine Bs ((Gq b w (i:Int))++[(143,X 4),(148,X 9)]) fun E2=>?_
 rw [e1,x]
 refine Do hu [(10,0,0),(11,0,0)] (fun _=>(FE w A xs.length c)) fun z r K5=>?_
 refine AU (Gq b w (i:Int)++[(15,δ (n:Int)),(16,δ (m:Int))]) fun E5=>?_
 exact v n m hn hm E5 r K5
theorem ABj {R:Ending→World→Prop} {b:Nat} {ns:List Int} {H:Nat} {wl:Bool} {w w0 w1:World} {A:Option Addr} {c:Nat} {xs d:List EI} {G:Nat→Prop} {E:Nat→Value} {i n m:Nat} (hn:n < xs.length) (hm:m < xs.length) (h0:(ε w0)=b) (K:Wk w0 w1 (FE w A xs.length c) (EA w0 b ns w A c xs G d) []) (hk:∀ zs,zs.length=xs.length→(∀ z,z∈zs↔z∈xs)→∀ (E:Nat→Value) w',Wk w0 w' (FE w A zs.length c) (EA w0 b ns w A c zs G d) []→At Tryz.prog 6 R (AM JV) (Fr 168 (BE E (Gq b w (i:Int)))) w'):At Tryz.prog 6 R JV (Fr 168 (BE E (Gq b w (i:Int)++[(15,δ (n:Int)),(16,δ (m:Int))]))) w1:=by
 obtain ⟨g,rfl,_⟩:=K.H.rowAt (K.ix 2) (K.at 2 rfl) (by omega)
 obtain ⟨l,b0⟩:∃ y,xs[m]?=some y:=⟨_,List.getElem?_eq_getElem hm⟩
 obtain ⟨yn,a0⟩:∃ y,xs[n]?=some y:=⟨_,List.getElem?_eq_getElem hn⟩
 have elem:∀ {u:World},Wk w0 u (FE w (θ g) xs.length c) (EA w0 b ns w (θ g) c xs G d) []→∀ (k:Nat) y,xs[k]?=some y→u.rangeAt g (0 + k * 21) y.2∧y.2.length=21:=fun {u} f k y hy=>by
  obtain ⟨rs,h1,h2⟩:=f.H.rows (fun _ _ h=>h.2.1) (f.ix 2) (f.at 2 rfl)
  obtain ⟨r,h3,h4⟩:=OP h1 hy
  rcases h2 with h2 | ⟨g',off,h2,_,_,h5⟩
  ·rw [h2] at h3; cases h3
  obtain ⟨rfl,rfl⟩:g=g'∧0=off:=by simpa using h2
  have h6:=h4.1
  subst h6
  exact ⟨fun j v hv=>h5 k _ h3 j v hv,h4.2.1⟩
 have d0:∀ {u:World},Wk w0 u (FE w (θ g) xs.length c) (EA w0 b ns w (θ g) c xs G d) []→∀ (k:Nat) y,xs[k]?=some y→Iv y y.2:=fun {u} f k y hy=>by
  obtain ⟨rs,h1,h2⟩:=f.H.rows (fun _ _ h=>h.2.1) (f.ix 2) (f.at 2 rfl)
  obtain ⟨r,h3,h4⟩:=OP h1 hy
  have h6:=h4.1
  subst h6
  exact h4
 have rm:=d0 K m l b0
 have rn:=d0 K n yn a0
 have keep:∀ (j:Nat),j≠17→∀ {a:Array Bool} {u:World},(fun a u=>a.size=20∧((a.getD 17 false=false∧Wk w0 u (FE w (θ g) xs.length c) (EA w0 b ns w (θ g) c xs G d) [])∨(a.getD 17 false=true∧a.getD 10 false=true∧a.getD 15 false=true∧Wk w0 u (FE w (θ g) xs.length c) (EA w0 b ns w (θ g) c (xs.set n l) G d) []))) a u→(fun a u=>a.size=20∧((a.getD 17 false=false∧Wk w0 u (FE w (θ g) xs.length c) (EA w0 b ns w (θ g) c xs G d) [])∨(a.getD 17 false=true∧a.getD 10 false=true∧a.getD 15 false=true∧Wk w0 u (FE w (θ g) xs.length c) (EA w0 b ns w (θ g) c (xs.set n l) G d) []))) (a.setIfInBounds j true) u:=fun j hj a u ⟨hs,h⟩=>by
  refine ⟨by rw [Array.size_setIfInBounds]; exact hs,?_⟩
  by_cases hb:j < a.size
  ·rw [Gu hb,Gu hb,Gu hb,decide_eq_false hj,Bool.false_or]
   rcases h with h | ⟨h1,h2,h3,h4⟩
   ·exact .inl h
   exact .inr ⟨h1,by rw [h2,Bool.or_true],by rw [h3,Bool.or_true],h4⟩
  rw [show a.setIfInBounds j true=a by rw [Array.setIfInBounds,dif_neg hb]]
  exact h
 have s:∀ (j:Nat),(j=10∨j=15∨j=17)→∀ {a:Array Bool} {u:World},a.getD j true=false→(fun a u=>a.size=20∧((a.getD 17 false=false∧Wk w0 u (FE w (θ g) xs.length c) (EA w0 b ns w (θ g) c xs G d) [])∨(a.getD 17 false=true∧a.getD 10 false=true∧a.getD 15 false=true∧Wk w0 u (FE w (θ g) xs.length c) (EA w0 b ns w (θ g) c (xs.set n l) G d) []))) a u→Wk w0 u (FE w (θ g) xs.length c) (EA w0 b ns w (θ g) c xs G d) []:=fun j hj a u hl ⟨_,h⟩=>by
  rcases h with ⟨_,h⟩ | ⟨h1,h2,h3,_⟩
  ·exact h
  rcases hj with rfl | rfl | rfl
  ·rw [OT h2] at hl; cases hl
  ·rw [OT h3] at hl; cases hl
  rw [OT h1] at hl; cases hl
 refine ER (AR JV) ([0,1,2,3,4,5,6,7,8,9,10,11,12,13,14,15,16,17,18].length + 1) ?_
 refine MB (C:=fun a _ u=>(fun a u=>a.size=20∧((a.getD 17 false=false∧Wk w0 u (FE w (θ g) xs.length c) (EA w0 b ns w (θ g) c xs G d) [])∨(a.getD 17 false=true∧a.getD 10 false=true∧a.getD 15 false=true∧Wk w0 u (FE w (θ g) xs.length c) (EA w0 b ns w (θ g) c (xs.set n l) G d) []))) a u) (Ext:=fun _ _=>True) [0,1,2,3,4,5,6,7,8,9,10,11,12,13,14,15,16,17,18] (FE w (θ g) xs.length c) [(1,1,1),(4,1,1),(7,1,1),(12,1,1)] [9,10,14,15,16,17,18] (fun i=>match i with | 17=>[15] | _=>[]) (Lw [(9,fun v _=>v=.pointer (some ⟨g,0 + m * 21,none⟩)),(10,fun v _=>v=ψ (l.2)),(14,fun v _=>v=.pointer (some ⟨g,0 + n * 21,none⟩)),(15,fun v _=>v=ψ (yn.2)),(16,fun v _=>v=.pointer (some ⟨g,0 + n * 21,none⟩)),(17,fun _ _=>True),(18,fun v _=>v=.pointer (some ⟨g,0 + m * 21,none⟩))]) 1 ⟨by kernel_rfl,.inl ⟨by kernel_rfl,K.below (Below.refl _ _).drew⟩⟩ (fun a _ u hu=>hu.2.elim (fun h=>h.2.G) fun h=>h.2.2.2.G) (fun _=>trivial) (fun _ _ _ _ _=>trivial) (fun j v u u' _ h=>Q9 (Ext:=fun _ _=>True) (fun p hp=>?_) j v u u' trivial h) (fun j _ hj a _ _ u hu=>keep j (fun e=>by subst e; cases hj) hu) (fun j hj X a u c0 e0 q hf=>?_) (by kernel_rfl) (by intro _; kernel_rfl) (by intro _ _; kernel_rfl) (by intro _; kernel_rfl) fun X u q _ hf=>?_
 ·simp only [List.mem_cons,List.not_mem_nil,or_false] at hp
  rcases hp with rfl | rfl | rfl | rfl | rfl | rfl | rfl <;> exact fun _ _ _ _ h=>h
 ·simp only [List.mem_cons,List.not_mem_nil,or_false] at hj
  rcases hj with rfl | rfl | rfl | rfl | rfl | rfl | rfl
  ·exact AN.value (CE (g:=g) (off:=0) (sz:=21) (k:=m) (len:=xs.length) (cap:=c) 25 (.tmp 156) (.tmp 157) hm Tryz.underlying25) ⟨keep 9 (by omega) q,trivial,rfl⟩
  ·have f:Wk w0 u (FE w (θ g) xs.length c) (EA w0 b ns w (θ g) c xs G d) []:=s 10 (by simp) c0 q
   refine AN.loadMid 59 (.tmp 158) (by kernel_rfl) (Eq.trans (b:=X 9) (by kernel_rfl) (hf 9 (by kernel_rfl) (by kernel_rfl))) l.2 (elem f m l b0).1 (by kernel_rfl) ?_ ⟨keep 10 (by omega) q,trivial,rfl⟩
   rw [(elem f m l b0).2]
   kernel_rfl
  ·exact AN.value (CE (g:=g) (off:=0) (sz:=21) (k:=n) (len:=xs.length) (cap:=c) 25 (.tmp 161) (.tmp 162) hn Tryz.underlying25) ⟨keep 14 (by omega) q,trivial,rfl⟩
  ·have f:Wk w0 u (FE w (θ g) xs.length c) (EA w0 b ns w (θ g) c xs G d) []:=s 15 (by simp) c0 q
   refine AN.loadMid 59 (.tmp 163) (by kernel_rfl) (Eq.trans (b:=X 14) (by kernel_rfl) (hf 14 (by kernel_rfl) (by kernel_rfl))) yn.2 (elem f n yn a0).1 (by kernel_rfl) ?_ ⟨keep 15 (by omega) q,trivial,rfl⟩
   rw [(elem f n yn a0).2]
   kernel_rfl
  ·exact AN.value (CE (g:=g) (off:=0) (sz:=21) (k:=n) (len:=xs.length) (cap:=c) 25 (.tmp 150) (.tmp 151) hn Tryz.underlying25) ⟨keep 16 (by omega) q,trivial,rfl⟩
  ·have f:Wk w0 u (FE w (θ g) xs.length c) (EA w0 b ns w (θ g) c xs G d) []:=s 17 (by simp) c0 q
   have i0:=e0 10 (by kernel_rfl)
   have g0:=e0 15 (by kernel_rfl)
   refine AN.over [(165,.pointer (some ⟨g,0 + n * 21,none⟩)),(159,ψ (l.2))] ⟨Eq.trans (b:=X 16) (by kernel_rfl) (hf 16 (by kernel_rfl) (by kernel_rfl)),Eq.trans (b:=X 10) (by kernel_rfl) (hf 10 (by kernel_rfl) (by kernel_rfl)),trivial⟩ ?_
   obtain ⟨w',hx,Hn,hb⟩:=Qw (P:=Tryz.prog) (o:=(AR JV).getD 17 default) (ρ:=Q6 [(165,.pointer (some ⟨g,0 + n * 21,none⟩)),(159,ψ (l.2))] (A8 168 (Ee Tryz.prog 168 (AR JV) (FE w (θ g) xs.length c) [(1,1,1),(4,1,1),(7,1,1),(12,1,1)] (Dx [9,10,14,15,16,17,18] X) [0,1,2,3,4,5,6,7,8,9,10,11,12,13,14,15,16,17,18] (BE E (Gq b w (i:Int)++[(15,δ (n:Int)),(16,δ (m:Int))])) 17))) f.H (f.ix 2) (f.at 2 rfl) n l l.2 hn rm (fun _ _ h=>h.2.1) (t:=59) (x:=.tmp 165) (y:=.tmp 159) (by kernel_rfl) (by kernel_rfl) (by kernel_rfl) (by kernel_rfl) rm.2.2
   have K2:=f.put 2 (by simp [EA]) hb Hn
   refine AN.skip hx ⟨⟨by rw [Array.size_setIfInBounds]; exact q.1,.inr ?_⟩,trivial,trivial⟩
   rw [Gu (by rw [q.1]; decide),Gu (by rw [q.1]; decide),Gu (by rw [q.1]; decide)]
   exact ⟨rfl,i0,g0,K2⟩
  exact AN.value (CE (g:=g) (off:=0) (sz:=21) (k:=m) (len:=xs.length) (cap:=c) 25 (.tmp 153) (.tmp 154) hm Tryz.underlying25) ⟨keep 18 (by omega) q,trivial,rfl⟩
 obtain ⟨hs,h⟩:=q
 have K2:Wk w0 u (FE w (θ g) xs.length c) (EA w0 b ns w (θ g) c (xs.set n l) G d) []:=by
  rcases h with ⟨h,_⟩ | ⟨_,_,_,h⟩
  ·exact absurd h (by rw [show (List.foldl (fun b i=>Array.setIfInBounds b i true) (Array.replicate ([0,1,2,3,4,5,6,7,8,9,10,11,12,13,14,15,16,17,18].length + 1) false) [0,1,2,3,4,5,6,7,8,9,10,11,12,13,14,15,16,17,18]).getD 17 false=true by kernel_rfl]; decide)
  exact h
 have e1:X 18=.pointer (some ⟨g,0 + m * 21,none⟩):=hf 18 (by decide) (by decide)
 have e2:X 15=ψ (yn.2):=hf 15 (by decide) (by decide)
 refine Bs ((Gq b w (i:Int))++[(166,X 18),(164,X 15)]) fun E2=>?_
 rw [e1,e2]
 obtain ⟨w3,hx,Hn,hb⟩:=Qw (P:=Tryz.prog) (o:=(AR JV).getD 19 default) (ρ:=A8 168 (BE E2 ((Gq b w (i:Int))++[(166,.pointer (some ⟨g,0 + m * 21,none⟩)),(164,ψ (yn.2))]))) K2.H (K2.ix 2) (K2.at 2 rfl) m yn yn.2 (by rw [List.length_set]; exact hm) rn (fun _ _ h=>h.2.1) (t:=59) (x:=.tmp 166) (y:=.tmp 164) (by kernel_rfl) (by kernel_rfl) (by kernel_rfl) (by kernel_rfl) rn.2.2
 refine MA (i:=19) ((AR JV).getD 19 default) (by kernel_rfl) (by kernel_rfl) (by kernel_rfl) hx ?_
 have K3:Wk w0 w3 (FE w (θ g) xs.length c) (EA w0 b ns w (θ g) c ((xs.set n l).set m yn) G d) []:=K2.put 2 (by simp [EA]) hb Hn
 refine Do K3 [] (fun _=>(FE w (θ g) xs.length c)) fun z w5 K5=>?_
 refine AU (Gq b w (i:Int)) fun E5=>?_
 exact hk ((xs.set n l).set m yn) (by rw [List.length_set,List.length_set]) (pd b0 a0) E5 w5 (by rw [List.length_set,List.length_set]; exact K5)
structure Iy (H:Nat) (wl:Bool) (i j:Nat) (xs ys:List EI):Prop where
 mem:∀ x∈xs,x∈ys
 ok:∀ x∈xs,I3 H wl x.1
 ins:∀ d∈Fm,d∈xs.map (·.1)
 scw:∃ es,FR es∧Ci [119] BU 20454 es∈xs.map (·.1)
 scs:∃ es,FR es∧Ci [115] BC 20454 es∈xs.map (·.1)
 rul:∀ k,k < i→∃ x,Gk k 20454 x∈xs.map (·.1)
 pay:0 < j→∃ x mode q,Jl 0 x mode q∈xs.map (·.1)
theorem Iy.add {H:Nat} {wl:Bool} {i j:Nat} {xs b es:List EI} (h:Iy H wl i j xs b) (he:∀ d∈es.map (·.1),I3 H wl d):Iy H wl i j (xs++es) (b++es):=by
 have up:∀ {d:Df},d∈xs.map (·.1)→d∈(xs++es).map (·.1):=fun {d} hd=>by rw [List.map_append]; exact List.mem_append_left _ hd
 refine ⟨fun x hx=>?_,fun x hx=>?_,fun d hd=>up (h.ins d hd),?_,?_,fun k c=>?_,fun f=>?_⟩
 ·rcases List.mem_append.1 hx with hx | hx
  ·exact List.mem_append_left _ (h.mem x hx)
  exact List.mem_append_right _ hx
 ·rcases List.mem_append.1 hx with hx | hx
  ·exact h.ok x hx
  exact he _ (List.mem_map_of_mem hx)
 ·obtain ⟨e,a,h2⟩:=h.scw
  exact ⟨e,a,up h2⟩
 ·obtain ⟨e,a,h2⟩:=h.scs
  exact ⟨e,a,up h2⟩
 ·obtain ⟨x,a⟩:=h.rul k c
  exact ⟨x,up a⟩
 obtain ⟨x,m,q,a⟩:=h.pay f
 exact ⟨x,m,q,up a⟩
theorem Iy.same {H:Nat} {wl:Bool} {i j:Nat} {xs c b:List EI} (h:Iy H wl i j xs c) (he:∀ z,z∈b↔z∈xs):Iy H wl i j b c:=by
 have up:∀ {d:Df},d∈xs.map (·.1)→d∈b.map (·.1):=fun {d} hd=>by
  obtain ⟨z,a,h2⟩:=List.mem_map.1 hd
  exact List.mem_map.2 ⟨z,(he z).2 a,h2⟩
 refine ⟨fun x hx=>h.mem x ((he x).1 hx),fun x hx=>h.ok x ((he x).1 hx),fun d hd=>up (h.ins d hd),?_,?_,fun k f=>?_,fun g=>?_⟩
 ·obtain ⟨e,a,h2⟩:=h.scw
  exact ⟨e,a,up h2⟩
 ·obtain ⟨e,a,h2⟩:=h.scs
  exact ⟨e,a,up h2⟩
 ·obtain ⟨x,a⟩:=h.rul k f
  exact ⟨x,up a⟩
 obtain ⟨x,m,q,a⟩:=h.pay g
 exact ⟨x,m,q,up a⟩
theorem AEo {R:Ending→World→Prop} {b:Nat} {ns:List Int} {H:Nat} {wl:Bool} {w w0 q:World} {A:Option Addr} {c:Nat} {xs d:List EI} {G:Nat→Prop} {E:Nat→Value} (j:(ε w0)=b) (a:0 < xs.length) (hl:xs.length≤30) (hi:Iy H wl 4 1 xs d) (K:Wk w0 q (FE w A xs.length c) (EA w0 b ns w A c xs G d) []) (hR:∀ (A:Option Addr) (c:Nat) (xs d:List EI) (G:Nat→Prop) (M:List A7) w',Iy H wl 4 1 xs d→xs.length≤30→Wk w0 w' M (EA w0 b ns w A c xs G d) []→R (.returned (ψ [η Af,τ A xs.length c])) w'):At Tryz.prog 6 R V9 (Fr 168 (BE E (ABp b w++[(133,ζ b)]))) q:=by
 refine BK K j 0 rfl (BR b ns 4 _ (K.tapeOk j 0 rfl) (by omega) (by omega)) BX.ok fun e u v h=>?_
 obtain ⟨k,hk,rfl,_,_⟩:=v
 refine ⟨_,rfl,?_⟩
 refine AB V8 h [] fun l g=>?_
 refine AU (Gq b w (k:Int)) fun r=>?_
 refine Bo (by kernel_rfl) (fun E p=>∃ (i:Nat) (xs:List EI) (s:Nat→Value),i≤3∧E=BE s (Gq b w (i:Int))∧Iy H wl 4 1 xs d∧0 < xs.length∧xs.length≤30∧Wk w0 p (FE w A xs.length c) (EA w0 b ns w A c xs G d) []) (fun E _=>AL (E 14)) ⟨k,xs,r,by omega,rfl,hi,a,hl,g⟩ ?_
 clear K h g hi a hl
 rintro E p ⟨i,xs,s,x,rfl,hi,a,hl,K1⟩ f
 refine AB V7 K1 [] fun u h=>?_
 refine AG (decide (0 < (i:Int))) (fun hc=>?_) (fun _=>?_)
 ·have y:0 < i:=by have:=of_decide_eq_true hc; omega
  refine AB Ql h [] fun l g=>?_
  refine AU (Gq b w (i:Int)) fun r=>?_
  refine ABk (H:=H) (wl:=wl) a j (by omega) g fun n m hn hm E4 w4 K4=>?_
  refine AB JV K4 [] fun w5 K5=>?_
  refine AU (Gq b w (i:Int)++[(15,δ (n:Int)),(16,δ (m:Int))]) fun E5=>?_
  refine ABj (H:=H) (wl:=wl) hn hm j K5 fun t hz o E6 w6 K6=>?_
  refine AB (AZ V8) K6 [] fun w7 z=>?_
  refine AU (Gq b w (IntKind.i64.wrap ((i:Int) - 1))) fun E7=>?_
  rw [show IntKind.i64.wrap ((i:Int) - 1)=((i - 1:Nat):Int) by rw [IntWalk.i64_in _ (by omega)]; omega]
  refine f _ _ ⟨i - 1,t,E7,by omega,rfl,hi.same o,by omega,by omega,z⟩ ?_
  show AL (δ ((i - 1:Nat):Int)) < AL (δ (i:Int))
  simp only [AL]
  omega
 refine Ah y2 [ι (ε w) [η Af,τ A xs.length c] 27,ι (ε w + 1) [η Af,τ A xs.length c] 27] h [(1,0),(0,0)] fun l g=>?_
 exact AK g (0,0) (ψ [η Af,τ A xs.length c]) (hR A c xs d G _ l hi hl g)
theorem ABn {R:Ending→World→Prop} {b:Nat} {ns:List Int} {H:Nat} {wl:Bool} {w w0 t:World} {A:Option Addr} {c:Nat} {xs a:List EI} {G:Nat→Prop} {E:Nat→Value} {y v:Nat} (hH:0 < H) (o:H≤1000) (l:(ε w0)=b) (hl:xs.length≤16) (hi:Iy H wl 4 0 xs a) (K:Wk w0 t (Jr w A xs.length c y v) (EA w0 b ns w A c xs G a) []) (hR:∀ (A:Option Addr) (c:Nat) (xs a:List EI) (G:Nat→Prop) (M:List A7) w',Iy H wl 4 1 xs a→xs.length≤30→Wk w0 w' M (EA w0 b ns w A c xs G a) []→R (.returned (ψ [η Af,τ A xs.length c])) w'):At Tryz.prog 6 R Qm (Fr 168 (BE E (KB b H w ((0:Nat):Int)))) t:=by
 refine Bo (by kernel_rfl) (fun E s=>∃ (i:Nat) (A:Option Addr) (c:Nat) (xs a:List EI) (G:Nat→Prop) (E0:Nat→Value),i≤2∧E=BE E0 (KB b H w (i:Int))∧Iy H wl 4 i xs a∧xs.length≤16 + i∧Wk w0 s (Jr w A xs.length c y v) (EA w0 b ns w A c xs G a) []) (fun E _=>3 - AL (E 13)) ⟨0,A,c,xs,a,G,E,by omega,rfl,hi,hl,K⟩ ?_
 clear K hi hl
 rintro E s ⟨i,A,c,xs,a,G,E0,b0,rfl,hi,hl,K1⟩ g
 refine AB lD K1 [] fun w2 K2=>?_
 refine BK K2 l 0 rfl (BR b ns 2 _ (K2.tapeOk l 0 rfl) (by omega) (by omega)) BX.ok fun e w3 m K3=>?_
 obtain ⟨k,hk,rfl,_,_⟩:=m
 refine ⟨_,rfl,?_⟩
 refine AB WB K3 [] fun w4 z=>?_
 refine AG (decide ((i:Int)≤(k:Int))) (fun hc=>?_) (fun hc=>?_)
 ·have a0:i≤1:=by have:=of_decide_eq_true hc; omega
  refine AB WA z [] fun w5 p=>?_
  refine AU (KB b H w (i:Int)) fun E5=>?_
  refine ABl (by omega) hH o l (by omega) p fun A' c' es G' E6 w6 m he K6=>?_
  refine AB (AZ Qm) K6 [] fun w7 K7=>?_
  refine AU (KB b H w (IntKind.i64.wrap ((i:Int) + 1))) fun E7=>?_
  rw [show IntKind.i64.wrap ((i:Int) + 1)=((i + 1:Nat):Int) by rw [IntWalk.i64_in _ (by omega)]; omega]
  obtain ⟨d,hd,x,mode,q,rfl,q0,q6,q7,u⟩:=m
  rw [IntWalk.i64_in _ (by omega)] at u
  have f:=hi.add (es:=es) fun d' j=>by
   rw [hd,List.mem_singleton] at j
   rw [j]
   exact .pay i x mode q (by omega) q0 q6 q7 u
  refine g _ _ ⟨i + 1,A',c',xs++es,a++es,G',E7,by omega,rfl,⟨f.mem,f.ok,f.ins,f.scw,f.scs,f.rul,fun _=>?_⟩,by rw [List.length_append]; omega,K7⟩ ?_
  ·by_cases h:0 < i
   ·exact f.pay h
   obtain rfl:i=0:=by omega
   exact ⟨x,mode,q,by rw [List.map_append,hd]; simp⟩
  show 3 - AL (δ ((i + 1:Nat):Int)) < 3 - AL (δ (i:Int))
  simp only [AL]
  omega
 have n:0 < i:=by have:=of_decide_eq_false hc; omega
 refine AB V9 z [] fun w5 p=>?_
 refine AU (ABp b w++[(133,ζ b)]) fun E5=>?_
 refine AEo l ?_ (by omega) ⟨hi.mem,hi.ok,hi.ins,hi.scw,hi.scs,hi.rul,fun _=>hi.pay n⟩ (p.pk [0,1] [0,1,2,3]) hR
 have:=hi.ins _ (List.mem_cons_self ..)
 cases xs with
 | nil=>cases this
 | cons x r=>exact Nat.succ_pos _
theorem ABi {R:Ending→World→Prop} {b:Nat} {ns:List Int} {H:Nat} {wl:Bool} {w w0 w1:World} {A:Option Addr} {c:Nat} {xs a:List EI} {G:Nat→Prop} {E:Nat→Value} {g f:Nat} (hH:0 < H) (d0:H≤1000) (y:(ε w0)=b) (hl:xs.length≤8) (hi:Iy H wl 0 0 xs a) (K:Wk w0 w1 (Jr w A xs.length c g f) (EA w0 b ns w A c xs G a) []) (hR:∀ (A:Option Addr) (c:Nat) (xs a:List EI) (G:Nat→Prop) (M:List A7) w',Iy H wl 4 1 xs a→xs.length≤30→Wk w0 w' M (EA w0 b ns w A c xs G a) []→R (.returned (ψ [η Af,τ A xs.length c])) w'):At Tryz.prog 6 R T8 (Fr 168 (BE E (UM b H wl w g f ((0:Nat):Int)))) w1:=by
 refine Bo (by kernel_rfl) (fun E wx=>∃ (i:Nat) (A:Option Addr) (c:Nat) (xs a:List EI) (G:Nat→Prop) (E0:Nat→Value),i≤4∧E=BE E0 (UM b H wl w g f (i:Int))∧Iy H wl i 0 xs a∧xs.length≤8 + 2 * i∧Wk w0 wx (Jr w A xs.length c g f) (EA w0 b ns w A c xs G a) []) (fun E _=>5 - AL (E 10)) ⟨0,A,c,xs,a,G,E,by omega,rfl,hi,hl,K⟩ ?_
 clear K hi hl
 rintro E wx ⟨i,A,c,xs,a,G,E0,j0,rfl,hi,hl,K1⟩ q
 refine AB WE K1 [] fun w2 s=>?_
 refine AG (decide ((i:Int) < 4)) (fun hc=>?_) (fun hc=>?_)
 ·have b0:i < 4:=by have:=of_decide_eq_true hc; omega
  have l:∀ (n:Int) (E:Nat→Value) (u:World),(n=(i:Int) + 1∨(wl=true∧n=5))→Wk w0 u (Jr w A xs.length c g f) (EA w0 b ns w A c xs G a) []→At Tryz.prog 6 R KQ (Fr 168 (BE E (IP b H wl w g f (i:Int) n ((0:Nat):Int)))) u:=fun n E u hn m=>by
   refine Bo (by kernel_rfl) (fun E wx=>∃ (v:Nat) (A:Option Addr) (c:Nat) (xs a:List EI) (G:Nat→Prop) (E0:Nat→Value),v≤2∧E=BE E0 (IP b H wl w g f (i:Int) n (v:Int))∧Iy H wl i 0 xs a∧(0 < v→∃ x,Gk i 20454 x∈xs.map (·.1))∧xs.length≤8 + 2 * i + v∧Wk w0 wx (Jr w A xs.length c g f) (EA w0 b ns w A c xs G a) []) (fun E _=>3 - AL (E 12)) ⟨0,A,c,xs,a,G,E,by omega,rfl,hi,fun h=>absurd h (by omega),hl,m⟩ ?_
   clear K1 s m hi hl
   rintro E wx ⟨v,A,c,xs,a,G,E0,g0,rfl,hi,a0,hl,K1⟩ o
   refine AB lF K1 [] fun w2 s=>?_
   refine BK s y 0 rfl (BR b ns 3 _ (s.tapeOk y 0 rfl) (by omega) (by omega)) BX.ok fun e w3 hq m=>?_
   obtain ⟨k,hk,rfl,_,_⟩:=hq
   refine ⟨_,rfl,?_⟩
   refine AB lE m [] fun w4 K4=>?_
   refine AG (decide ((v:Int)≤IntKind.i64.wrap (Int.tdiv (k:Int) 2))) (fun hc=>?_) (fun hc=>?_)
   ·have i0:v≤1:=by
     have h1:=of_decide_eq_true hc
     have h2:k=0∨k=1∨k=2:=by omega
     have h3:IntKind.i64.wrap (Int.tdiv (k:Int) 2)≤1:=by rcases h2 with rfl | rfl | rfl <;> decide
     omega
    refine AB WC K4 [] fun w5 p=>?_
    refine AU (IP b H wl w g f (i:Int) n (v:Int)) fun E5=>?_
    refine ABm (wl:=wl) b0 hH d0 y (by omega) p fun A' c' es G' z t hq he r=>?_
    refine AB (AZ KQ) r [] fun w7 K7=>?_
    refine AU (IP b H wl w g f (i:Int) n (IntKind.i64.wrap ((v:Int) + 1))) fun E7=>?_
    rw [show IntKind.i64.wrap ((v:Int) + 1)=((v + 1:Nat):Int) by rw [IntWalk.i64_in _ (by omega)]; omega]
    obtain ⟨d,hd,x,rfl,q8⟩:=hq
    have h1:=hi.add (es:=es) fun d' c0=>by
     rw [hd,List.mem_singleton] at c0
     rw [c0]
     refine .rule i _ x n b0 ?_ hn q8
     obtain rfl | rfl:v=0∨v=1:=by omega
     ·exact .inl (by decide)
     exact .inr (by decide)
    refine o _ _ ⟨v + 1,A',c',xs++es,a++es,G',E7,by omega,rfl,h1,fun _=>?_,by rw [List.length_append]; omega,K7⟩ ?_
    ·by_cases h:0 < v
     ·obtain ⟨x',h2⟩:=a0 h
      exact ⟨x',by rw [List.map_append]; exact List.mem_append_left _ h2⟩
     obtain rfl:v=0:=by omega
     refine ⟨x,?_⟩
     rw [List.map_append,hd]
     exact List.mem_append_right _ (List.mem_singleton.2 (by rw [show IntKind.i64.wrap (20454 + IntKind.i64.wrap (5 * ((0:Nat):Int)))=20454 by decide]))
    show 3 - AL (δ ((v + 1:Nat):Int)) < 3 - AL (δ (v:Int))
    simp only [AL]
    omega
   have e0:0 < v:=by
    have h1:=of_decide_eq_false hc
    have h2:k=0∨k=1∨k=2:=by omega
    have h3:0≤IntKind.i64.wrap (Int.tdiv (k:Int) 2):=by rcases h2 with rfl | rfl | rfl <;> decide
    omega
   refine AB (AZ T8) K4 [] fun w5 p=>?_
   refine AU (UM b H wl w g f (IntKind.i64.wrap ((i:Int) + 1))) fun E5=>?_
   rw [show IntKind.i64.wrap ((i:Int) + 1)=((i + 1:Nat):Int) by rw [IntWalk.i64_in _ (by omega)]; omega]
   refine q _ _ ⟨i + 1,A,c,xs,a,G,E5,by omega,rfl,⟨hi.mem,hi.ok,hi.ins,hi.scw,hi.scs,fun k hk=>?_,fun h=>absurd h (by omega)⟩,by omega,p⟩ ?_
   ·by_cases h:k < i
    ·exact hi.rul k h
    obtain rfl:k=i:=by omega
    exact a0 e0
   show 5 - AL (δ ((i + 1:Nat):Int)) < 5 - AL (δ (i:Int))
   simp only [AL]
   omega
  have j:∀ (E:Nat→Value) (u:World),Wk w0 u (Jr w A xs.length c g f) (EA w0 b ns w A c xs G a) []→At Tryz.prog 6 R KQ (Fr 168 (BE E (IP b H wl w g f (i:Int) (IntKind.i64.wrap ((i:Int) + 1)) ((0:Nat):Int)))) u:=fun E u m=>by
   rw [IntWalk.i64_in ((i:Int) + 1) (by omega)]
   exact l _ E u (.inl rfl) m
  cases wl with
  | true=>
   refine AB lG s [] fun w3 m=>?_
   refine BK m y 0 rfl (BR b ns 4 _ (m.tapeOk y 0 rfl) (by omega) (by omega)) BX.ok fun e w4 hq K4=>?_
   obtain ⟨k,hk,rfl,_,_⟩:=hq
   refine ⟨_,rfl,?_⟩
   refine AB WD K4 [] fun w5 p=>?_
   refine AG ((k:Int) == 3) (fun _=>?_) (fun _=>?_)
   ·refine AB KQ p [] fun t r=>?_
    refine AU (IP b H true w g f (i:Int) 5 ((0:Nat):Int)) fun z=>?_
    exact l 5 z t (.inr ⟨rfl,rfl⟩) r
   refine AB KQ p [] fun t r=>?_
   refine AU (IP b H true w g f (i:Int) (IntKind.i64.wrap ((i:Int) + 1)) ((0:Nat):Int)) fun z=>?_
   exact j z t r
  | false=>
   refine AB WD s [] fun w5 p=>?_
   refine AG false (fun h=>absurd h Bool.false_ne_true) (fun _=>?_)
   refine AB KQ p [] fun t r=>?_
   refine AU (IP b H false w g f (i:Int) (IntKind.i64.wrap ((i:Int) + 1)) ((0:Nat):Int)) fun z=>?_
   exact j z t r
 obtain rfl:i=4:=by have:=of_decide_eq_false hc; omega
 refine AB Qm s [] fun w3 m=>?_
 refine AU (KB b H w ((0:Nat):Int)) fun E3=>?_
 exact ABn hH d0 y hl hi m hR
structure SZ (ds:List Df):Prop where
 ins:∀ d∈Fm,d∈ds
 scw:∃ es,FR es∧Ci [119] BU 20454 es∈ds
 scs:∃ es,FR es∧Ci [115] BC 20454 es∈ds
 rul:∀ k,k < 4→∃ x,Gk k 20454 x∈ds
 pay:∃ x mode q,Jl 0 x mode q∈ds
def oF (b:Nat) (ns:List Int) (H:Nat) (wl:Bool) (w:World) (e:Ending) (w':World):Prop:=∃ A c ds,e=.returned (ψ [η Af,τ A ds.length c])∧(∃ rs,∀ u,CG b w' u→EY CN u ds rs∧DH CN u 21 A rs)∧ds.length≤c∧ds.length≤30∧(∀ d∈ds,I3 H wl d)∧SZ ds∧Be b ns w'∧CG b w w'
def Iq:List EI:=Fm.map fun d=>(d,Bg d none 0 none 0)
theorem wR:∀ x∈Iq,∀ (G:Nat→Prop) (u:World),Ej G u x.1 x.2:=fun x hx G u=>by
 obtain ⟨d,hd,rfl⟩:=List.mem_map.1 hx
 have h:d.ents=[]∧d.body=BM:=by
  simp only [Fm,List.mem_cons,List.not_mem_nil,or_false] at hd
  rcases hd with rfl | rfl | rfl | rfl | rfl <;> exact ⟨rfl,rfl⟩
 have a:AX d.body none 0=AX BM none 0:=by rw [h.2]
 refine L6 h.1 ?_
 rw [h.2]
 exact ZH
theorem ABo {b:Nat} {ns:List Int} {H:Nat} {wl:Bool} {w w0 w':World} {A:Option Addr} {c:Nat} {xs a:List EI} {G:Nat→Prop} {M:List A7} (f:w0.heap.size=b) (hw:Below w0.heap.size w0 w) (hb:b < w.heap.size) (hi:Iy H wl 4 1 xs a) (hl:xs.length≤30) (K:Wk w0 w' M (EA w0 b ns w A c xs G a) []):oF b ns H wl w (.returned (ψ [η Af,τ A xs.length c])) w':=by
 refine ⟨A,c,xs.map (·.1),by rw [List.length_map],?_,?_,by rw [List.length_map]; exact hl,fun d hd=>?_,⟨hi.ins,hi.scw,hi.scs,hi.rul,hi.pay (by decide)⟩,K.tapeOk f 0 rfl,(K.out f hw).2⟩
 ·obtain ⟨rs,y,h2⟩:=K.H.rows (fun _ _ h=>h.2.1) (K.ix 2) (K.at 2 rfl)
  have ht:(GE G a).P w':=K.H.all (K.ix 3) _ (K.at 3 rfl)
  have hG:∀ g,G g→g < w'.heap.size∧g≠b:=fun g hg=>⟨(K.H.lo (K.ix 3) _ (K.at 3 rfl) g hg).2,by have:=K.newerT f 1 (t:=GE G a) rfl hg; omega⟩
  refine ⟨rs,fun u hu=>?_⟩
  have o:∀ (l:List EI) (rs:List (List Value)),(∀ x∈l,x∈a)→ET Iv l rs→EY CN u (l.map (·.1)) rs:=by
   intro l
   induction l with
   | nil=>intro rs _ h; cases rs with
    | nil=>rfl
    | cons r q=>cases h
   | cons x l ih=>intro rs hm h; cases rs with
    | nil=>cases h
    | cons r q=>
     refine ⟨r,q,rfl,?_,ih q (fun x hx=>hm x (by simp [hx])) h.2⟩
     rw [h.1.1]
     exact (ht x (hm x (by simp))).keep hu.size fun g hg m=>⟨trivial,hu.block g m (hG g hg).2⟩
  refine ⟨o xs rs hi.mem y,?_⟩
  rcases h2 with h2 | ⟨g,off,p,h3,e,s⟩
  ·exact .inl h2
  have n:g≠b:=by
   have hx:0 < xs.length:=by
    have:=hi.ins _ (List.mem_cons_self ..)
    cases xs with
    | nil=>cases this
    | cons x r=>exact Nat.succ_pos _
   obtain ⟨g',h6,_⟩:=K.H.rowAt (K.ix 2) (K.at 2 rfl) hx
   rw [p] at h6
   obtain ⟨rfl,rfl⟩:g=g'∧off=0:=by simpa using h6
   have:=K.newerT f 0 (t:=Fa A c xs) rfl (k:=g) (by rw [p]; exact (rfl:some (⟨g,0,none⟩:Addr)=θ g))
   omega
  refine .inr ⟨g,off,p,trivial,Nat.lt_of_lt_of_le e hu.size,fun i r hr j v hv=>?_⟩
  have z:=s i r hr j v hv
  unfold World.cell? at z ⊢
  rw [hu.block g e n]
  exact z
 ·obtain ⟨rs,y,h2⟩:(Fa A c xs).P w':=K.H.all (K.ix 2) _ (K.at 2 rfl)
  have h3:rs.length=xs.length:=Hf y
  rw [List.length_map]
  rcases h2.2 with ⟨e,s⟩ | ⟨g,cap,a0,e,_,_,s,_⟩
  ·omega
  cases e
  omega
 obtain ⟨x,hx,rfl⟩:=List.mem_map.1 hd
 exact hi.ok x hx
theorem AGL (b:Nat) (ns:List Int) (H:Nat) (wl:Bool) (hH:0 < H) (b0:H≤1000) (w:World) (hT:Be b ns w):Calls Tryz.prog 6 ([ζ b,δ (H:Int),ξ wl]:List Value).toArray w (oF b ns H wl w):=by
 refine AS (fn:=Tryz.f6) (c:=aL) (n:=168) ?_
 obtain ⟨w0,l,K0⟩:=Wk.tape hT
 have hw:=K0.B
 have hb:=hT.lt
 refine Ah tp [ι (ε w) [η [],τ none 0 0] 27,ι (ε w + 1) [η Af,τ none 0 0] 27] K0 [(1,0)] fun w1 K1=>?_
 refine AP K1 (args:=[]) (Ic _) fun w2 K2=>?_
 refine AB tn K2 [] fun w3 K3=>?_
 refine AP K3 (args:=[]) (LE _) fun w4 K4=>?_
 refine AB tk K4 [] fun w5 K5=>?_
 refine AP K5 (args:=[]) (Gg _) fun w6 K6=>?_
 refine AB tj K6 [] fun w7 K7=>?_
 refine AP K7 (args:=[]) (Ic _) fun v Kz=>?_
 refine Ah UA [ι (ε w) [η [],τ none 0 0] 27,ι (ε w + 1) [η Af,τ (some ⟨ε v,0,none⟩) 5 5] 27,ι (ε v) ((Iq.map (·.2)).flatten) 59] Kz [(1,1)] fun w8 K8=>?_
 have y:=K8.entRows (n:=21) 2 Iv Iq (Iq.map (·.2)) ⟨⟨rfl,rfl,rfl⟩,⟨rfl,rfl,rfl⟩,⟨rfl,rfl,rfl⟩,⟨rfl,rfl,rfl⟩,⟨rfl,rfl,rfl⟩,trivial⟩ rfl (by decide) (by decide) rfl
 have I8:Wk w0 w8 [ι (ε w) [η [],τ none 0 0] 27,ι (ε w + 1) [η Af,τ (some ⟨ε v,0,none⟩) 5 5] 27] (EA w0 b ns w (some ⟨ε v,0,none⟩) 5 Iq (fun _=>False) Iq) []:=y.freshT y (GE (fun _=>False) Iq) (fun x hx=>wR x hx _ _) (fun _ h=>h.elim)
 refine AU (MC b H wl w) fun E8=>?_
 refine AEq (H:=H) (wl:=wl) l (show Iq.length≤100 by decide) I8 fun A c es G E9 w9 hq he K9=>?_
 obtain ⟨e1,e2,g,o1,o2⟩:=hq
 have hi:Iy H wl 0 0 (Iq++es) (Iq++es):=by
  refine ⟨fun x hx=>hx,fun x hx=>?_,fun d hd=>?_,⟨e1,o1,?_⟩,⟨e2,o2,?_⟩,fun k hk=>absurd hk (by omega),fun h=>absurd h (by omega)⟩
  ·rcases List.mem_append.1 hx with hx | hx
   ·obtain ⟨d,hd,rfl⟩:=List.mem_map.1 hx
    exact .ins d hd
   have:=List.mem_map_of_mem (f:=(·.1)) hx
   rw [g] at this
   simp only [List.mem_cons,List.not_mem_nil,or_false] at this
   rcases this with h | h
   ·show I3 H wl x.1
    rw [h]
    exact .sc _ _ _ e1 (.inl ⟨rfl,rfl⟩) (.inl rfl) o1
   show I3 H wl x.1
   rw [h]
   exact .sc _ _ _ e2 (.inr ⟨rfl,rfl⟩) (.inl rfl) o2
  ·rw [List.map_append]
   exact List.mem_append_left _ (by rw [Iq,List.map_map]; exact List.mem_map.2 ⟨d,hd,rfl⟩)
  ·rw [List.map_append,g]; simp
  rw [List.map_append,g]; simp
 have a:∀ (A:Option Addr) (c:Nat) (xs t:List EI) (G:Nat→Prop) (E:Nat→Value) (q:Nat) (u:World),Iy H wl 0 0 xs t→xs.length≤8→Wk w0 u [ι (ε w) [η [],τ none 0 0] 27,ι (ε w + 1) [η Af,τ A xs.length c] 27,ι q [η [114,49],η [114,50],η [114,51],η [114,52]] 9] (EA w0 b ns w A c xs G t) []→At Tryz.prog 6 (oF b ns H wl w) MP (Fr 168 (BE E ((MC b H wl w)++[(51,χ q 4 4)]))) u:=fun A c xs t G E q u hi hl Ku=>by
  refine AP Ku (args:=[]) (Gf _) fun v1 J1=>?_
  refine AB (AC MP) J1 [] fun v2 J2=>?_
  refine AP J2 (args:=[]) (Gg _) fun v3 J3=>?_
  refine AB (AC (AC MP)) J3 [] fun v4 J4=>?_
  refine AP J4 (args:=[]) (LE _) fun v5 J5=>?_
  refine AB (AC (AC (AC MP))) J5 [] fun v6 J6=>?_
  refine AP J6 (args:=[]) (Hb _) fun v7 J7=>?_
  refine Ah T8 (Jr w A xs.length c q (ε v7)) J7 [] fun v8 y=>?_
  refine AU (UM b H wl w q (ε v7) ((0:Nat):Int)) fun E8=>?_
  exact ABi hH b0 l hl hi y fun A c xs t G M w' h1 h2 h3=>ABo l hw hb h1 h2 h3
 have h7:(Iq++es).length=7:=by rw [List.length_append,he]; rfl
 refine AB ti K9 [] fun k0 s=>?_
 refine BK s l 0 rfl (BR b ns 3 _ (s.tapeOk l 0 rfl) (by omega) (by omega)) BX.ok fun e j0 hq g0=>?_
 obtain ⟨k,hk,rfl,_,_⟩:=hq
 refine ⟨_,rfl,?_⟩
 refine AB da g0 [] fun o r=>?_
 refine AG ((k:Int) == 0) (fun _=>?_) (fun _=>?_)
 ·refine AB dZ r [] fun i0 e0=>?_
  refine AU (MC b H wl w) fun p0=>?_
  refine AEp (H:=H) (wl:=wl) l (by omega) e0 fun A' c' c0 G' m0 m a0 l0 d0=>?_
  obtain ⟨d,hd,e3,rfl,o3⟩:=a0
  refine Ah MP [ι (ε w) [η [],τ none 0 0] 27,ι (ε w + 1) [η Af,τ A' ((Iq++es)++c0).length c'] 27,ι (ε m) [η [114,49],η [114,50],η [114,51],η [114,52]] 9] d0 [] fun z i=>?_
  refine AU ((MC b H wl w)++[(51,τ (some ⟨ε m,0,none⟩) 4 4)]) fun j=>?_
  refine a _ _ _ _ _ j _ _ (hi.add fun d' p=>?_) (by rw [List.length_append]; omega) i
  rw [hd,List.mem_singleton] at p
  rw [p]
  exact .sc _ _ _ e3 (.inl ⟨rfl,rfl⟩) (.inr rfl) o3
 refine Ah MP [ι (ε w) [η [],τ none 0 0] 27,ι (ε w + 1) [η Af,τ A (Iq++es).length c] 27,ι (ε o) [η [114,49],η [114,50],η [114,51],η [114,52]] 9] r [] fun z i=>?_
 refine AU ((MC b H wl w)++[(51,τ (some ⟨ε o,0,none⟩) 4 4)]) fun j=>?_
 exact a _ _ _ _ _ j _ _ hi (by omega) i
end Go.Proofs.YtkjbdagicjbjjaaGreat

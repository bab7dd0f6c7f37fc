/- Contracts of functions, part 23. -/
import Derived.Test.YtkjbdagicjbjjaaGreatTs21
import Derived.Test.YtkjbdagicjbjjaaGreatTs22
import Derived.Test.YtkjbdagicjbjjaaGreatTs19
set_option linter.all false
namespace Go.Proofs.YtkjbdagicjbjjaaGreat
open Go.RowKit
set_option maxRecDepth 100000
set_option maxHeartbeats 1000000
attribute [local irreducible] BD BP AC AD AF Ar AZ AM Aw Bk C6 BV BO At Fr
section
variable (mi ms mp mr:List (List UInt8×Int))
end
section
variable (vZ:Ex→Prop)
end
section
variable (vZ:Ex→Prop)
end
end Go.Proofs.YtkjbdagicjbjjaaGreat
namespace Go.Proofs.YtkjbdagicjbjjaaGreat
noncomputable section
open Go.RowKit
set_option maxRecDepth 100000
set_option maxHeartbeats 1000000
section
variable (f:Ex→Nat→List aT) (l:List aT) (x k0 k1 k2:Ex)
end
def vZ (h:Nat) (x:Ex):Prop:=x.height≤h∧(∃ q,Fu x q=true)∧Dm x
section
variable {p0aaA:Option Addr} {p0aan:Nat} {p0aac:Nat} {p0abA:Option Addr} {p0abn:Nat} {p0abc:Nat} {p0acA:Option Addr} {p0acn:Nat} {p0acc:Nat} {p0adA:Option Addr} {p0adn:Nat} {p0adc:Nat} {bi:Nat} {mi:List (List UInt8×Int)} {bs:Nat} {ms:List (List UInt8×Int)} {bp:Nat} {mp:List (List UInt8×Int)} {br:Nat} {mr:List (List UInt8×Int)} {w:World}
end
theorem Og {α:Type} {P:Program} {T:TypeId} {n:Nat} {e:α→List Value→Prop} {b:Nat} {A:Option Addr} {c:Nat} {l:List α} {L:List Th} {w:World} {ρ:Operand→Value} (H:Aj b w L) (i:Nat) (hi:L[i]?=some (Th.row T n e A c l)) (es:List α) (rows:List (List Value)) (p:ET e es rows) (ad:Addr) (cx:Nat)
  (a0:∀ j u,rows.flatten[j]?=some u→w.cell? (ad.add j)=some u) (o:Oper) (s x:Operand) (t:TypeId) (ho:o.op=.call { callee:=.builtin .append,args:=#[s,x],argTypes:=#[t,t] })
  (ht:P.underlying t=some (.slice T)) (a:(P.info? T).map (fun i=>(i.zero.map (·.cells.size),i.size,Nat.ble i.bytes 1024))=some (some n,n,true)) (g0:0 < n)
  (hs:ρ s=.slice A l.length c) (hx:ρ x=.slice (some ad) es.length cx) (hn:∀ r∈rows,r.length=n) (h1:∀ r∈rows,r.all (·.oneCell')=true) (d0:l.length + es.length≤100000000000) :
  ∃ g k w',(execOp ρ o).run P w=.ok (.value (.slice g (l++es).length k)) w'∧Aj b w' (L.set i (Th.row T n e g k (l++es)))∧Below b w w':=by
 obtain ⟨rs,i0,hP⟩:(Th.row T n e A c l).P w:=H.all i _ hi
 obtain ⟨d,k0,z,hz,e0,v,m0⟩:∃ d,P.info? T=some d∧∃ z,d.zero=some z∧z.cells.size=n∧d.size=n∧d.bytes≤1024:=by
  cases hi:P.info? T with
  | none=>rw [hi] at a; cases a
  | some d=>
   rw [hi] at a
   simp only [Option.map_some,Option.some.injEq,Prod.mk.injEq,Option.map_eq_some_iff] at a
   obtain ⟨⟨z,h1,h2⟩,f,h4⟩:=a
   exact ⟨d,rfl,z,h1,h2,f,Nat.le_of_ble_eq_true h4⟩
 have p0:l.length + es.length≤maxLen:=by unfold maxLen; omega
 have m:(l.length + es.length) * d.bytes≤140737488355328:=Nat.le_trans (Nat.mul_le_mul d0 m0) (by decide)
 have l0:∀ q:List (List Value),(∀ r∈q,r.length=n)→q.flatten.length=q.length * n:=fun q=>by
  induction q with
  | nil=>intro _; simp
  | cons r q ih=>intro h; rw [List.flatten_cons,List.length_append,ih (fun r hr=>h r (by simp [hr])),h r (by simp),List.length_cons,Nat.succ_mul]; omega
 obtain ⟨v',w',hr,h2,f,_,h5⟩:=run_append_own_at (P:=P) (w:=w) 0 t o.type T d z n d.bytes ht k0 hz v rfl e0 g0 _ _ _ hP ad es.length cx rows.flatten (by rw [l0 rows hn,Hf p]) a0 (fun u hu=>by obtain ⟨r,hr,hu⟩:=List.mem_flatten.1 hu; exact List.all_eq_true.1 (h1 r hr) u hu) p0 m (Nat.zero_le _)
 have hv:∃ g k,v'=.slice g (l.length + es.length) k:=by
  rcases h2.2 with ⟨f,h0⟩ | ⟨g',cap,q0,rfl,_⟩
  ·exact ⟨none,0,by rw [f,h0]⟩
  exact ⟨_,cap,rfl⟩
 obtain ⟨g,k,rfl⟩:=hv
 have c0:(Th.row T n e g k (l++es)).P w':=⟨rs++rows,Wx i0 p,by
  rw [List.length_append,List.flatten_append]
  exact h2⟩
 have hF:∀ q,(Th.row T n e g k (l++es)).F q→q < w'.heap.size∧((Th.row T n e A c l).F q∨w.heap.size≤q):=fun q hq=>by
  have y:(Value.slice g (l.length + es.length) k).ownBlock=some q:=by rw [show g=some ⟨q,0,none⟩ from hq]; rfl
  refine ⟨(Mb h2 y).2,?_⟩
  rcases h5 with h5 | h5
  ·exact .inl (Dj hP (h5.symm.trans y)).1
  right
  have:q=w.heap.size:=Option.some.inj (y.symm.trans h5)
  omega
 have b0:∀ q,q < w.heap.size→¬ (Th.row T n e A c l).F q→w'.heap[q]?=w.heap[q]?:=fun q hq j0=>f.block q hq fun he=>j0 (Dj hP he.symm).1
 have H':Aj b w' (L.set i (Th.row T n e g k (l++es))):=H.set i hi f.size c0 hF b0
 have hB:Below b w w':=⟨f.os,f.tape,f.output,f.size,fun q hq=>f.block q (Nat.lt_of_lt_of_le hq H.base) fun he=>by
  have:=(H.lo i _ hi q (Dj hP he.symm).1).1
  omega⟩
 refine ⟨g,k,w',?_,H',hB⟩
 rw [List.length_append]
 unfold execOp
 simp only [ho,resolve,invoke,builtin,Sem.run_bind,Sem.run_pure,Result.andThen_ok,List.map_toArray,List.map_cons,List.map_nil,hs,hx,hr]
theorem SV {P:Program} {ops:Array Oper} {Q:Exit→Act→World→Prop} {n:Nat} {E:Nat→Value} {a:Array Bool} {fuel:Nat} {w w':World} (i:Nat) {v:Value} (hx:(execOp (A8 n E) (ops.getD i default)).run P w=.ok (.value v) w') (b:wpAny P .any ops Q fuel (a.setIfInBounds i true) (Fr n (Aw E (ops.getD i default).dst v)) w')
  (hc:(Region.ready .any ops a,Nat.blt i ops.size,(ops.getD i default).guard)=([i],true,none):=by kernel_rfl):wpAny P .any ops Q (fuel + 1) a (Fr n E) w:=by
 simp only [Prod.mk.injEq] at hc
 obtain ⟨e,c,d⟩:=hc
 rw [Nat.blt_eq] at c
 refine KH e (o:=ops.getD i default) (by simp [Array.getD,c]) d ?_
 unfold Oper.wp
 rw [D7,hx]
 rw [← El] at b
 exact b
theorem Aj.merge {b:Nat} {w:World} {L:List Th} {s t m:Th} (h:Aj b w (L++[t])) (i:Nat) (hi:L[i]?=some s) (hP:m.P w) (z:∀ k,m.F k→s.F k∨t.F k):Aj b w (L.set i m):=by
 have y:=(List.getElem?_eq_some_iff.1 hi).1
 have a:∀ (q:Nat) (u:Th),L[q]?=some u→(L++[t])[q]?=some u:=fun q u hu=>by rw [List.getElem?_append_left (List.getElem?_eq_some_iff.1 hu).1]; exact hu
 have c:(L++[t])[L.length]?=some t:=by rw [List.getElem?_append_right (Nat.le_refl _),Nat.sub_self]; rfl
 have hg:∀ (q:Nat) (u:Th),(L.set i m)[q]?=some u→(q=i∧u=m)∨(q≠i∧L[q]?=some u):=fun q u hu=>by
  rw [List.getElem?_set] at hu
  by_cases j:i=q
  ·rw [if_pos j,if_pos y] at hu
   exact .inl ⟨j.symm,(Option.some.inj hu).symm⟩
  rw [if_neg j] at hu
  exact .inr ⟨fun e=>j e.symm,hu⟩
 refine ⟨h.base,fun q u hu=>?_,fun q u hu k d=>?_,fun p q u v hu hv n k d=>?_⟩
 ·rcases hg q u hu with ⟨_,rfl⟩ | ⟨_,hu⟩
  ·exact hP
  exact h.all q u (a q u hu)
 ·rcases hg q u hu with ⟨_,rfl⟩ | ⟨_,hu⟩
  ·rcases z k d with d | d
   ·exact h.lo i s (a i s hi) k d
   exact h.lo L.length t c k d
  exact h.lo q u (a q u hu) k d
 rcases hg p u hu with ⟨x,r⟩ | ⟨x,l⟩
 ·subst r
  rcases hg q v hv with ⟨j,_⟩ | ⟨j,g⟩
  ·exact absurd (x.trans j.symm) n
  have a0:=(List.getElem?_eq_some_iff.1 g).1
  rcases z k d with d | d
  ·exact h.apart i q s v (a i s hi) (a q v g) (fun e=>j e.symm) k d
  exact h.apart L.length q t v c (a q v g) (by omega) k d
 have b0:=(List.getElem?_eq_some_iff.1 l).1
 rcases hg q v hv with ⟨j,o⟩ | ⟨j,g⟩
 ·intro f
  rw [o] at f
  rcases z k f with f | f
  ·exact h.apart p i u s (a p u l) (a i s hi) x k d f
  exact h.apart p L.length u t (a p u l) c (by omega) k d f
 exact h.apart p q u v (a p u l) (a q v g) n k d
theorem Wk.merge {w0 w:World} {M:List A7} {L:List Th} {s t m:Th} (K:Wk w0 w M (L++[t]) []) (i:Nat) (hi:L[i]?=some s) (a:m.P w) (b:∀ k,m.F k→s.F k∨t.F k):Wk w0 w M (L.set i m) []:=by
 refine ⟨K.B,?_⟩
 have h:=K.H
 rw [List.append_nil] at h ⊢
 rw [← List.append_assoc] at h
 have h2:=h.merge (M.length + i) (s:=s) (by rw [List.getElem?_append_right (by rw [List.length_map]; omega),List.length_map,Nat.add_sub_cancel_left]; exact hi) a b
 rwa [List.set_append,if_neg (by rw [List.length_map]; omega),List.length_map,Nat.add_sub_cancel_left] at h2
theorem Qw {P:Program} {o:Oper} {ρ:Operand→Value} {α:Type} {T:TypeId} {n:Nat} {d:α→List Value→Prop} {b g c:Nat} {l:List α} {L:List Th} {w:World} (H:Aj b w L) (i:Nat) (hi:L[i]?=some (Th.row T n d (θ g) c l))
  (j:Nat) (e':α) (a:List Value) (hj:j < l.length) (p:d e' a) (hn:∀ e r,d e r→r.length=n) {t:TypeId} {x y:Operand} (ho:o.op=.store t x y) (hx:ρ x=.pointer (some ⟨g,0 + j * n,none⟩)) (hy:ρ y=ψ a) (d0:MT P t=some n) (h1:a.all (·.oneCell')=true) :
  ∃ w',(execOp ρ o).run P w=.ok .skip w'∧Aj b w' (L.set i (Th.row T n d (θ g) c (l.set j e')))∧Below b w w':=by
 obtain ⟨rs,v,hP⟩:(Th.row T n d (θ g) c l).P w:=H.all i _ hi
 rcases hP.2 with ⟨h0,_⟩ | ⟨g',cap,m,hA,_,hg,p0,m0,l0,ht⟩
 ·cases h0
 obtain ⟨rfl,rfl⟩:g=g'∧c=cap:=by
  injection hA with e1 e2 e3
  injection e1 with e1
  injection e1 with e1
  exact ⟨e1,e3⟩
 have h:=LK hn v
 have e0:rs.length=l.length:=Hf v
 have k:=hn _ _ p
 have k0:(j + 1) * n≤c * n:=Nat.mul_le_mul_right n (by omega)
 rw [Nat.succ_mul] at k0
 have b0:(0 + j * n) + 0 + a.length≤m.size:=by rw [l0,k]; omega
 have a0:=run_storeCells_at P g (0 + j * n) T a 0 m w hg b0 (fun u hu=>List.all_eq_true.1 h1 u hu)
 rw [Nat.add_zero,Nat.zero_add] at a0
 have j0:=H.lo i _ hi g rfl
 have c0:∀ nw:List Value,nw.length=c * n→nw.take (l.length * n)=(rs.set j a).flatten→Aj b (w.setRow g nw.toArray) (L.set i (Th.row T n d (θ g) c (l.set j e')))∧Below b w (w.setRow g nw.toArray):=fun nw i0 g0=>by
  have f:(w.setRow g nw.toArray).heap.size=(ε w):=by unfold World.setRow; simp
  refine ⟨H.set i hi (by rw [f]; exact Nat.le_refl _) (show (Th.row T n d (θ g) c (l.set j e')).P _ from ⟨rs.set j a,Wu p j v,?_,.inr ⟨g,c,_,by rw [List.length_set],Nat.zero_le _,setRow_heap w g m _ T _ hg,by rw [List.length_set]; exact p0,m0,by simpa using i0,by rw [List.length_set]; simpa using g0⟩⟩) (fun q hq=>⟨?_,.inl hq⟩) (fun q _ hf=>setRow_other w g q _ fun e=>hf (by rw [e]; rfl)),⟨rfl,rfl,rfl,by rw [f]; exact Nat.le_refl _,fun q hq=>setRow_other w g q _ fun e=>by omega⟩⟩
  ·have s:∀ r∈rs.set j a,r.length=n:=fun r hr=>by
    rcases List.mem_or_eq_of_mem_set hr with hr | rfl
    ·exact h r hr
    exact k
   rw [show (l.set j e').length=(rs.set j a).length by rw [List.length_set,List.length_set,e0]]
   generalize rs.set j a=q at s
   induction q with
   | nil=>simp
   | cons r q ih=>rw [List.flatten_cons,List.length_append,s r (by simp),ih fun r hr=>s r (by simp [hr]),List.length_cons,Nat.succ_mul]; omega
  obtain rfl:g=q:=by have:=Option.some.inj hq; injection this
  rw [f]
  exact j0.2
 have z:∀ (rs:List (List Value)) (j:Nat),(∀ r∈rs,r.length=n)→j < rs.length→(rs.set j a).flatten=rs.flatten.take (j * n)++a++rs.flatten.drop (j * n + n):=by
  intro rs
  induction rs with
  | nil=>intro j _ hj; simp at hj
  | cons r rs ih=>
   intro j hw hj
   have hr:=hw r (by simp)
   cases j with
   | zero=>simp [hr]
   | succ j=>
    have:=ih j (fun q hq=>hw q (by simp [hq])) (by simpa using hj)
    rw [List.set_cons_succ,List.flatten_cons,this,List.flatten_cons,show (j + 1) * n=n + j * n by rw [Nat.succ_mul,Nat.add_comm]]
    generalize rs.flatten=Fl
    have e1:(r++Fl).take (n + j * n)=r++Fl.take (j * n):=by rw [List.take_append,hr,List.take_of_length_le (by omega),Nat.add_sub_cancel_left]
    have e2:(r++Fl).drop (n + j * n + n)=Fl.drop (j * n + n):=by
     rw [List.drop_append,hr,List.drop_eq_nil_of_le (by omega),List.nil_append]
     congr 1
     omega
    rw [e1,e2]
    simp
 obtain ⟨h8,h9⟩:=c0 (m.toList.take (j * n)++a++m.toList.drop (j * n + a.length)) (by
  simp only [List.length_append,List.length_take,List.length_drop,Array.length_toList]
  omega) (by
  rw [z rs j h (by omega),← ht]
  have q0:j * n + n≤l.length * n:=by
   have:=Nat.mul_le_mul_right n (show j + 1≤l.length from hj)
   rwa [Nat.succ_mul] at this
  rw [k,List.take_take,Nat.min_eq_left (by omega),List.drop_take,List.take_append,List.take_of_length_le (by simp; omega)]
  congr 1
  simp only [List.length_append,List.length_take,Array.length_toList,k]
  congr 1
  omega)
 refine ⟨_,?_,h8,h9⟩
 unfold execOp
 simp only [ho,hx,hy]
 have h3:(⟨a⟩:Array Value).size=n:=k
 have h4:(Value.agg ⟨a⟩).cells=⟨a⟩:=rfl
 simp [Instr.storeAt,Instr.sureAddr,storeVar,I6 d0,h4,h3,a0]
attribute [local irreducible] BD BP AC AD AF Ar AZ AM Aw Bk C6 BV Fo EE C5 BO At Fr
theorem Wk.newerT {w0 u w:World} {M:List A7} {X T:List Th} {b:Nat} {ns:List Int} (K:Wk w0 u M (BF w0 b ns :: Bh b w :: X) T) (f:w0.heap.size=b) (j:Nat) {t:Th} (d:X[j]?=some t) {k:Nat} (c:t.F k):w.heap.size≤k:=by
 have hx:(BF w0 b ns :: Bh b w :: X)[j + 2]?=some t:=d
 have e:=(K.H.lo (K.ix (j + 2)) _ (K.at (j + 2) hx) k c).1
 refine Nat.le_of_not_lt fun a=>?_
 by_cases hb:k=b
 ·exact K.H.apart (K.ix (j + 2)) (K.ix 0) _ _ (K.at (j + 2) hx) (K.at 0 rfl) (by unfold Wk.ix; omega) k c hb
 exact K.H.apart (K.ix (j + 2)) (K.ix 1) _ _ (K.at (j + 2) hx) (K.at 1 rfl) (by unfold Wk.ix; omega) k c ⟨by omega,a⟩
def Ci (nm:List UInt8) (t:Ty) (frm:Int) (es:List (Int×Int×Int)):Df:=⟨2,nm,t.1,t.2.1,t.2.2.1,t.2.2.2,frm,es,BM,0,0,0⟩
def FR (es:List (Int×Int×Int)):Prop:=es.length≤3∧∀ e∈es,0≤e.1∧e.1≤12∧e.2∈Hm
def FC (lo:Nat) (Pd:Df→Prop) (v:Value) (u:World):Prop:=∃ d A1 c1 A2 c2,v=ψ (Bg d A1 c1 A2 c2)∧Pd d∧Ej (fun g=>lo≤g) u d (Bg d A1 c1 A2 c2)
def DfP (b:Nat) (ns:List Int) (Pd:Df→Prop) (w:World) (e:Ending) (w':World):Prop:=∃ v,e=.returned v∧FC (ε w) Pd v w'∧Be b ns w'∧CG b w w'
theorem ZH {S:Nat→Prop} {w:World}:DE S w BM (AX BM none 0):=Xb rfl
noncomputable def Zl:Code:=Tryz.f20.body.getD .skip
def rY:=ν [.code Zl]
def rX:=Ω rY
def bK:=Ω rX
def bJ:=ν (Ar bK)
def bI:=Ξ bJ
def ACZ:=AI bI
def ACY:=Ψ bJ
theorem Wn (b:Nat) (ns:List Int) (nm:List UInt8) (t:Ty) (frm:Int) (w:World) (m:Be b ns w):Calls Tryz.prog 20 ([.pointer (some ⟨b,0,none⟩),.string ⟨⟨nm⟩⟩,.agg ⟨Ax t⟩,δ frm]:List Value).toArray w (DfP b ns (fun d=>∃ es,d=Ci nm t frm es∧FR es) w):=by
 refine AS (fn:=Tryz.f20) (c:=Zl) (n:=40) ?_
 obtain ⟨w0,j,K0⟩:=Wk.tape m
 have hw:=K0.B
 refine Ah rY [⟨w.heap.size,0,Ax t,56,true⟩,⟨w.heap.size + 1,0,Bg ⟨0,[],false,0,0,0,0,[],BM,0,0,0⟩ none 0 none 0,59,true⟩,⟨w.heap.size + 2,0,Bg (Ci nm t frm []) none 0 none 0,59,true⟩] (K0.addNil 101 3 (fun (e:Int×Int×Int) r=>r=IX e)) [(0,0),(2,0)] fun w1 K1=>?_
 refine BK K1 j 0 rfl (BR b ns 2 _ (K1.tapeOk j 0 rfl) (by omega) (by omega)) BX.ok fun e w2 f K2=>?_
 obtain ⟨k2,l0,rfl,_,_⟩:=f
 refine ⟨_,rfl,?_⟩
 refine AB rX K2 [] fun w3 a=>?_
 refine BK a j 0 rfl (BR b ns 3 _ (a.tapeOk j 0 rfl) (by omega) (by omega)) BX.ok fun e w4 f K4=>?_
 obtain ⟨k4,k0,rfl,_,_⟩:=f
 refine ⟨_,rfl,?_⟩
 refine AB bK K4 [] fun w5 K5=>?_
 refine AU [(0,.pointer (some ⟨b,0,none⟩)),(8,.pointer (some ⟨w.heap.size + 1,0,none⟩)),(9,.pointer (some ⟨w.heap.size + 2,0,none⟩)),(10,δ (k2:Int)),(11,δ (IntKind.i64.wrap (1 + (k4:Int))))] fun E5=>?_
 rw [show IntKind.i64.wrap (1 + (k4:Int))=((k4 + 1:Nat):Int) by rw [IntWalk.i64_in _ (by omega)]; omega]
 refine Bo (by kernel_rfl) (fun E wx=>∃ (i:Nat) (key:Int) (es:List (Int×Int×Int)) (A:Option Addr) (c:Nat) (E0:Nat→Value),i≤3∧E=BE E0 [(0,.pointer (some ⟨b,0,none⟩)),(8,.pointer (some ⟨w.heap.size + 1,0,none⟩)),(9,.pointer (some ⟨w.heap.size + 2,0,none⟩)),(10,δ key),(11,δ (i:Int))]∧FR es∧es.length + i≤3∧0≤key∧key + i * 4≤13∧Wk w0 wx [⟨w.heap.size,0,Ax t,56,true⟩,⟨w.heap.size + 1,0,Bg ⟨0,[],false,0,0,0,0,[],BM,0,0,0⟩ none 0 none 0,59,true⟩,⟨w.heap.size + 2,0,Bg (Ci nm t frm es) A c none 0,59,true⟩] [BF w0 b ns,Bh b w,Ta A c es] []) (fun E _=>AL (E 11)) ⟨k4 + 1,k2,[],none,0,E5,by omega,rfl,⟨Nat.zero_le _,fun e he=>by cases he⟩,by simp; omega,by omega,by omega,K5⟩ ?_
 clear K0 K1 K2 a K4 K5
 rintro E wx ⟨i,key,es,A,c,E0,hi,rfl,k,q0,b0,m0,K1⟩ l
 refine AB bJ K1 [] fun w2 K2=>?_
 refine AG (decide (0 < (i:Int))) (fun hc=>?_) (fun _=>?_)
 ·have p0:0 < i:=by have:=of_decide_eq_true hc; omega
  refine AB bI K2 [] fun w3 a=>?_
  refine AU [(0,.pointer (some ⟨b,0,none⟩)),(8,.pointer (some ⟨w.heap.size + 1,0,none⟩)),(9,.pointer (some ⟨w.heap.size + 2,0,none⟩)),(10,δ key),(11,δ (i:Int))] fun E3=>?_
  refine Ek a j 0 rfl [0,1,2,3,4,5,6] [⟨w.heap.size,0,Ax t,56,true⟩,⟨w.heap.size + 1,0,Bg ⟨0,[],false,0,0,0,0,[],BM,0,0,0⟩ none 0 none 0,59,true⟩,⟨w.heap.size + 2,0,Bg (Ci nm t frm es) A c none 0,59,true⟩] [(1,2,7)] [(4,fun v _=>∃ q∈Hm,v=.agg ⟨[δ q.1,δ q.2]⟩),(5,fun v _=>∃ q∈Hm,v=.agg ⟨[δ key,δ q.1,δ q.2]⟩),(6,fun v u=>∃ q∈Hm,∃ g,v=.slice (some ⟨g,0,none⟩) 1 1∧g≠b∧A7.good u ⟨g,0,[δ key,δ q.1,δ q.2],101,true⟩)] 3 (fun u hu=>hu.G) (fun p o=>?_) (fun p o X u hu c0 hf=>?_) fun X u hu c0 hf=>?_
  ·simp only [List.mem_cons,List.not_mem_nil,or_false] at o
   rcases o with rfl | rfl | rfl
   ·exact fun _ _ _ _ h=>h
   ·exact fun _ _ _ _ h=>h
   exact fun v u u' he ⟨q,f,g,y,h2,h3⟩=>⟨q,f,g,y,h2,GY h3 he.size (he.block g h3.1 h2)⟩
  ·have m:=hu.tapeOk j 0 rfl
   simp only [List.mem_cons,List.not_mem_nil,or_false] at o
   rcases o with rfl | rfl | rfl
   ·exact Bn (g:=34) (xs:=[.tmp 28]) (args:=[.pointer (some ⟨b,0,none⟩)]) ((ABc b ns u m).mono fun e w' ⟨q,y,h2,h3,h4⟩=>⟨_,h2,h3,h4,q,y,rfl⟩) rfl
   ·obtain ⟨q,f,e1⟩:∃ q∈Hm,X 4=.agg ⟨[δ q.1,δ q.2]⟩:=hf 4 (by kernel_rfl) rfl
    exact AN.over [(29,.agg ⟨[δ q.1,δ q.2]⟩)] ⟨Eq.trans (b:=X 4) (by kernel_rfl) e1,trivial⟩ (AN.reads ⟨0,[],(0,0),[]⟩ (fun e he=>by cases he) (.agg ⟨[δ key,δ q.1,δ q.2]⟩) ⟨m,CG.refl b u,q,f,rfl⟩)
   obtain ⟨q,f,e1⟩:∃ q∈Hm,X 5=.agg ⟨[δ key,δ q.1,δ q.2]⟩:=hf 5 (by kernel_rfl) rfl
   exact AN.over [(30,.agg ⟨[δ key,δ q.1,δ q.2]⟩)] ⟨Eq.trans (b:=X 5) (by kernel_rfl) e1,trivial⟩ (Gl (fun z=>.slice (some ⟨z,0,none⟩) 1 1) [δ key,δ q.1,δ q.2] 101 (fun w' hB hg=>⟨m.below hB,.of_below hB,q,f,u.heap.size,rfl,Nat.ne_of_gt m.lt,hg⟩) (by intro z; kernel_rfl))
  obtain ⟨q,f,g,e1,_,hg⟩:∃ q∈Hm,∃ g,X 6=.slice (some ⟨g,0,none⟩) 1 1∧g≠b∧A7.good u ⟨g,0,[δ key,δ q.1,δ q.2],101,true⟩:=hf 6 (by simp) rfl
  refine Bs [(0,.pointer (some ⟨b,0,none⟩)),(8,.pointer (some ⟨w.heap.size + 1,0,none⟩)),(9,.pointer (some ⟨w.heap.size + 2,0,none⟩)),(10,δ key),(11,δ (i:Int)),(26,.slice A es.length c),(31,X 6)] fun E4=>?_
  rw [e1]
  have g0:=k.1
  obtain ⟨A',c',w6,hx,Hn,b6⟩:=Og (ρ:=A8 40 _) hu.H (hu.ix 2) (hu.at 2 rfl) [(key,q.1,q.2)] [IX (key,q.1,q.2)] ⟨rfl,trivial⟩ ⟨g,0,none⟩ 1 (Jv (n:=3) (DJ (rs:=[IX (key,q.1,q.2)]) (fun r hr=>by rw [List.mem_singleton.1 hr]; rfl) (by simpa using hg)) (fun r hr=>by rw [List.mem_singleton.1 hr]; rfl)) ((AR bI).getD 7 default) (.tmp 26) (.tmp 31) 57 (by kernel_rfl) (by kernel_rfl) (by kernel_rfl) (by decide) (by kernel_rfl) (by kernel_rfl) (fun r hr=>by rw [List.mem_singleton.1 hr]; rfl) (fun r hr=>by rw [List.mem_singleton.1 hr]; rfl) (by simp; omega)
  refine SV 7 hx ?_
  have K6:Wk w0 w6 [⟨w.heap.size,0,Ax t,56,true⟩,⟨w.heap.size + 1,0,Bg ⟨0,[],false,0,0,0,0,[],BM,0,0,0⟩ none 0 none 0,59,true⟩,⟨w.heap.size + 2,0,Bg (Ci nm t frm es) A c none 0,59,true⟩] [BF w0 b ns,Bh b w,Ta A' c' (es++[(key,q.1,q.2)])] []:=hu.put 2 (by simp) b6 Hn
  refine Do K6 [(8,0,0),(9,2,7)] (fun _=>[⟨w.heap.size,0,Ax t,56,true⟩,⟨w.heap.size + 1,0,Bg ⟨0,[],false,0,0,0,0,[],BM,0,0,0⟩ none 0 none 0,59,true⟩,⟨w.heap.size + 2,0,Bg (Ci nm t frm (es++[(key,q.1,q.2)])) A' c' none 0,59,true⟩]) fun z w7 K7=>?_
  refine AU [(0,.pointer (some ⟨b,0,none⟩)),(8,.pointer (some ⟨w.heap.size + 1,0,none⟩)),(9,.pointer (some ⟨w.heap.size + 2,0,none⟩)),(10,δ key),(11,δ (i:Int))] fun E7=>?_
  refine AB ACZ K7 [] fun w8 K8=>?_
  refine BK K8 j 0 rfl (BR b ns 4 _ (K8.tapeOk j 0 rfl) (by omega) (by omega)) BX.ok fun e w9 a0 K9=>?_
  obtain ⟨k9,j0,rfl,_,_⟩:=a0
  refine ⟨_,rfl,?_⟩
  refine AB (AZ bK) K9 [] fun i0 d0=>?_
  refine AU [(0,.pointer (some ⟨b,0,none⟩)),(8,.pointer (some ⟨w.heap.size + 1,0,none⟩)),(9,.pointer (some ⟨w.heap.size + 2,0,none⟩)),(10,δ (IntKind.i64.wrap (key + IntKind.i64.wrap (1 + (k9:Int))))),(11,δ (IntKind.i64.wrap ((i:Int) - 1)))] fun e0=>?_
  rw [IntWalk.i64_in (1 + (k9:Int)) (by omega),IntWalk.i64_in (key + (1 + (k9:Int))) (by omega),show IntKind.i64.wrap ((i:Int) - 1)=((i - 1:Nat):Int) by rw [IntWalk.i64_in _ (by omega)]; omega]
  refine l _ _ ⟨i - 1,key + (1 + (k9:Int)),es++[(key,q.1,q.2)],A',c',e0,by omega,rfl,⟨by simp; omega,fun e he=>?_⟩,by simp; omega,by omega,by omega,d0⟩ ?_
  ·rcases List.mem_append.1 he with he | he
   ·exact k.2 e he
   rw [List.mem_singleton.1 he]
   exact ⟨b0,by show key≤12; omega,f⟩
  show AL (δ ((i - 1:Nat):Int)) < AL (δ (i:Int))
  simp only [AL]
  omega
 refine Ah ACY [⟨w.heap.size,0,Ax t,56,true⟩,⟨w.heap.size + 1,0,Bg (Ci nm t frm es) A c none 0,59,true⟩,⟨w.heap.size + 2,0,Bg (Ci nm t frm es) A c none 0,59,true⟩] K2 [(2,0),(1,0)] fun w3 a=>?_
 refine AK a (1,0) (.agg ⟨Bg (Ci nm t frm es) A c none 0⟩) ⟨_,rfl,⟨_,A,c,none,0,rfl,⟨es,rfl,k⟩,A,c,AX BM none 0,ZH,?_,rfl⟩,a.out j hw⟩
 rcases (show DH CN w3 3 A (es.map IX) from a.H.rowsF (fun _=>rfl) (a.ix 2) (a.at 2 rfl)) with y | ⟨g,off,hA,_,h2⟩
 ·exact .inl y
 refine .inr ⟨g,off,hA,?_,h2⟩
 obtain ⟨g',rfl,_⟩:∃ g',A=some ⟨g',0,none⟩∧True:=by
  cases hl:es with
  | nil=>
   rcases ((show (Ta A c es).P w3 from a.H.all (a.ix 2) _ (a.at 2 rfl))) with ⟨rs,_,ho⟩
   rcases ho.2 with ⟨s,_⟩ | ⟨g9,_,_,s,_⟩
   ·rw [show A=none by simp only [Value.slice.injEq] at s; exact s.1] at hA
    cases hA
   exact ⟨g9,by simp only [Value.slice.injEq] at s; exact s.1,trivial⟩
  | cons x r=>
   obtain ⟨g9,h9,_⟩:=a.H.rowAt (a.ix 2) (a.at 2 rfl) (by rw [hl]; exact Nat.succ_pos _)
   exact ⟨g9,h9,trivial⟩
 obtain ⟨rfl,_⟩:g'=g∧0=off:=by simpa using hA
 exact a.newerT j 0 rfl (show (Ta (some ⟨g',0,none⟩) c es).F g' from rfl)
end
end Go.Proofs.YtkjbdagicjbjjaaGreat
namespace Go.Proofs.YtkjbdagicjbjjaaGreat
noncomputable section
open Go.RowKit
set_option maxRecDepth 100000
set_option maxHeartbeats 1000000
attribute [local irreducible] BD BP AC AD AF Ar AZ AM Aw Bk C6 BV BO At Fr
def CM:List (Df)→List Df→List Df→List Df→List Df×List Df×List Df
 | [],a0_0,a0_1,a0_2=>(a0_0,a0_1,a0_2)
 | e0 :: tl,a0_0,a0_1,a0_2=>cond (e0.kind == 1) (CM tl (a0_0++[e0]) a0_1 a0_2) (cond (e0.kind == 3) (CM tl (a0_0++[e0]) a0_1 a0_2) (cond (e0.kind == 4) (CM tl (a0_0++[e0]) a0_1 a0_2) (cond (e0.kind == 2) (CM tl a0_0 (a0_1++[e0]) a0_2) (cond (e0.kind == 5) (CM tl a0_0 a0_1 (a0_2++[e0])) (CM tl a0_0 a0_1 a0_2)))))
theorem SE {c:List Df} {b:List Df} {a:List Df}:CM [] c b a=((c,b,a)):=by rw [CM]
theorem RU {c:List Df} {b:List Df} {a:List Df} {es:List (Df)} (i:Nat) (d:Df) (hi:es[i]?=some d):CM (es.drop i) c b a=(cond (d.kind == 1) (CM (es.drop (i + 1)) (c++[d]) b a) (cond (d.kind == 3) (CM (es.drop (i + 1)) (c++[d]) b a) (cond (d.kind == 4) (CM (es.drop (i + 1)) (c++[d]) b a) (cond (d.kind == 2) (CM (es.drop (i + 1)) c (b++[d]) a) (cond (d.kind == 5) (CM (es.drop (i + 1)) c b (a++[d])) (CM (es.drop (i + 1)) c b a)))))):=by
 have hl:i < es.length:=(List.getElem?_eq_some_iff.1 hi).1
 have he:es[i]=d:=(List.getElem?_eq_some_iff.1 hi).2
 rw [← List.getElem_cons_drop hl,CM] <;> (try rw [he])
def AW (ds:List (Df)):List Df×List Df×List Df:=CM ds ([]) ([]) ([])
noncomputable def ni:Code:=Tryz.f46.body.getD .skip
def NU:=ν ([.code ni])
def fC:=ν (Ar NU)
def AAi:=AA (An Ae 90 (AD fC)) (AD fC)
def pN:=ν (AC (AC AAi))
def pM:=Ξ pN
def AAh:=AA (An Bp 90 (AD pM)) (AD pM)
def pL:=Ψ pN
def pK:=Ξ pL
def AAg:=AA (An Bp 90 (AD pK)) (AD pK)
def e8:=Ψ pL
def ut:=AA (An Bp 90 (AD e8)) (AD e8)
def UG:=Ψ e8
def ur:=AA (An Bp 90 (AD UG)) (AD UG)
def e9:=Ψ UG
def uq:=AA (An Bp 90 (AD e9)) (AD e9)
def AEV:=Ψ fC
theorem gb (L:List Th) (n2:List UInt8) (h0:Option Addr) (ds:List (Df)) (x:Nat) (w we:World) (v1:rowsDf w h0 ds) (o2:ds.length≤4294967296) (B:Below (ε w) w we) (H:Aj (ε w) we ([]++L)):Calls Tryz.prog 46 ([ψ [η n2,τ h0 ds.length x]]:List Value).toArray we fun e w'=>∃ (r1:Option Addr) (o1:Nat) (q1:Option Addr) (n1:Nat) (p1:Option Addr) (m1:Nat),e=.returned (.tuple #[τ r1 ((((AW ds)).1).length) o1,τ q1 ((((AW ds)).2.1).length) n1,τ p1 ((((AW ds)).2.2).length) m1])∧Below (ε w) w w'∧Aj (ε w) w' ([C8 w r1 o1 (((AW ds)).1),C8 w q1 n1 (((AW ds)).2.1),C8 w p1 m1 (((AW ds)).2.2)]++L):=by
 refine AS (fn:=Tryz.f46) (c:=ni) (n:=40) ?_
 have K1:Wk w we [] [] L:=⟨B,H⟩
 clear B H
 refine Am NU K1 [(0,1)] fun w1 K2=>?_
 have K3:Wk w w1 [] [] L:=K2.pk [] []
 have K4:=K3.addNil 59 21 (Ej CN w)
 have K5:=K4.addNil 59 21 (Ej CN w)
 have K6:=K5.addNil 59 21 (Ej CN w)
 have z:(AW ds)=CM ds ([]) ([]) ([]):=by unfold AW; rfl
 refine AU [(2,τ none 0 0),(3,τ none 0 0),(4,τ none 0 0),(8,τ h0 ds.length x),(9,δ ((ds.length:Int))),(10,δ (((0:Nat):Int)))] fun E2=>?_
 refine Bo (by kernel_rfl) (fun E g1=>∃ (t:Nat) (l:List Df) (j:List Df) (i:List Df) (s:Option Addr) (r:Nat) (f:Option Addr) (d:Nat) (b:Option Addr) (a:Nat) (E0:Nat→Value),t≤ds.length∧E=BE E0 [(2,τ s l.length r),(3,τ f j.length d),(4,τ b i.length a),(8,τ h0 ds.length x),(9,δ ((ds.length:Int))),(10,δ ((t:Int)))]∧(AW ds)=CM (List.drop t ds) l j i∧l.length≤1 * t + 0∧j.length≤1 * t + 0∧i.length≤1 * t + 0∧Wk w g1 [] [(C8 w s r l),(C8 w f d j),(C8 w b a i)] L) (fun E _=>ds.length - AL (E 10)) ⟨0,([]),([]),([]),none,0,none,0,none,0,E2,Nat.zero_le _,rfl,z,by simp,by simp,by simp,K6⟩ ?_
 clear z
 rintro E g1 ⟨t,l,j,i,s,r,f,d,b,a,E0,z4,rfl,z,r2,q2,p2,K7⟩ v
 refine AB fC K7 [] fun w4 K8=>?_
 refine AG (decide ((t:Int) < (ds.length:Int))) (fun c5=>?_) (fun c5=>?_)
 ·have y:t < ds.length:=by have:=of_decide_eq_true c5; omega
  obtain ⟨u,u1⟩:∃ e,ds[t]?=some e:=⟨_,List.getElem?_eq_getElem y⟩
  rw [RU t u u1] at z
  obtain ⟨c0,d0,rfl,x1,z1⟩:=v1.all (by omega)
  obtain ⟨q,o,p,m,s1,b0,a0⟩:=z1 t _ u1
  refine Ak Ae AAi K8 [] fun w6 K9=>?_
  refine Ay (g:=c0) (off:=d0) (cap:=x) (sz:=21) (k:=t) (len:=ds.length) (some 12) y Tryz.underlying25 ?_
  refine BN 59 c0 (d0 + t * 21) _ (some 13) (Ag s1 x1 K9.B) ?_
  refine Am pN K9 [(0,0),(0,0)] fun w7 e2=>?_
  refine AG (u.kind == 1) (fun c8=>?_) (fun c8=>?_)
  ·refine AB pM e2 [] fun w9 t3=>?_
   refine AG (u.kind == 1) (fun _=>?_) (fun h=>nomatch h.symm.trans c8)
   refine CY Bp AAh [ι (ε w6) ((Bg u q o p m)) 59,ι (ε w9) ((Bg u q o p m)) 59] t3 [(0,0)] fun x4 q0=>?_
   refine Cw q0.H (q0.ix 0) (q0.at 0 rfl) u (ω u q o p m) (Je b0 a0) (ε w9) (q0.ent 1 (by kernel_rfl)) (CL AAh) (by kernel_rfl) (.tmp 20) (.tmp 22) 25 (by kernel_rfl) (by kernel_rfl) (by kernel_rfl) (by decide) (by kernel_rfl) (by kernel_rfl) rfl rfl (by ((try simp only [maxLen,List.length_append,List.length_cons,List.length_nil,List.length_singleton]) <;> omega)) fun f1 z0 v4 Hn w2=>?_
   have r3:=q0.put 0 (by simp) w2 Hn
   refine AB (AZ NU) r3 [] fun m2 q3=>?_
   refine AU [(2,τ f1 ((l++[u]).length) z0),(3,τ f j.length d),(4,τ b i.length a),(8,τ (some ⟨c0,d0,none⟩) ds.length x),(9,δ ((ds.length:Int))),(10,δ (IntKind.i64.wrap ((t:Int) + 1)))] fun b4=>?_
   have p3:Wk w m2 [] [(C8 w f1 z0 (l++[u])),(C8 w f d j),(C8 w b a i)] L:=q3.pk [] [0,1,2]
   rw [Bl t (by omega)]
   refine v _ _ ⟨t + 1,(l++[u]),j,i,f1,z0,f,d,b,a,b4,y,rfl,by rw [z,c8] <;> rfl,by ((try simp only [maxLen,List.length_append,List.length_cons,List.length_nil,List.length_singleton]) <;> omega),by ((try simp only [maxLen,List.length_append,List.length_cons,List.length_nil,List.length_singleton]) <;> omega),by ((try simp only [maxLen,List.length_append,List.length_cons,List.length_nil,List.length_singleton]) <;> omega),p3⟩ ?_
   show ds.length - AL (δ ((t + 1:Nat):Int)) < ds.length - AL (δ (t:Int))
   simp only [AL]
   omega
  refine AB pL e2 [] fun t4 d2=>?_
  refine AG (u.kind == 3) (fun g0=>?_) (fun g0=>?_)
  ·refine AB pK d2 [] fun l1 o3=>?_
   refine AG (u.kind == 3) (fun _=>?_) (fun h=>nomatch h.symm.trans g0)
   refine CY Bp AAg [ι (ε w6) ((Bg u q o p m)) 59,ι (ε l1) ((Bg u q o p m)) 59] o3 [(0,0)] fun q4 p0=>?_
   refine Cw p0.H (p0.ix 0) (p0.at 0 rfl) u (ω u q o p m) (Je b0 a0) (ε l1) (p0.ent 1 (by kernel_rfl)) (CL AAg) (by kernel_rfl) (.tmp 20) (.tmp 22) 25 (by kernel_rfl) (by kernel_rfl) (by kernel_rfl) (by decide) (by kernel_rfl) (by kernel_rfl) rfl rfl (by ((try simp only [maxLen,List.length_append,List.length_cons,List.length_nil,List.length_singleton]) <;> omega)) fun e1 x0 p4 Hn v2=>?_
   have n3:=p0.put 0 (by simp) v2 Hn
   refine AB (AZ NU) n3 [] fun l2 m3=>?_
   refine AU [(2,τ e1 ((l++[u]).length) x0),(3,τ f j.length d),(4,τ b i.length a),(8,τ (some ⟨c0,d0,none⟩) ds.length x),(9,δ ((ds.length:Int))),(10,δ (IntKind.i64.wrap ((t:Int) + 1)))] fun a4=>?_
   have l3:Wk w l2 [] [(C8 w e1 x0 (l++[u])),(C8 w f d j),(C8 w b a i)] L:=m3.pk [] [0,1,2]
   rw [Bl t (by omega)]
   refine v _ _ ⟨t + 1,(l++[u]),j,i,e1,x0,f,d,b,a,a4,y,rfl,by rw [z,c8,g0] <;> rfl,by ((try simp only [maxLen,List.length_append,List.length_cons,List.length_nil,List.length_singleton]) <;> omega),by ((try simp only [maxLen,List.length_append,List.length_cons,List.length_nil,List.length_singleton]) <;> omega),by ((try simp only [maxLen,List.length_append,List.length_cons,List.length_nil,List.length_singleton]) <;> omega),l3⟩ ?_
   show ds.length - AL (δ ((t + 1:Nat):Int)) < ds.length - AL (δ (t:Int))
   simp only [AL]
   omega
  refine AB e8 d2 [] fun k1 c2=>?_
  refine AG (u.kind == 4) (fun j0=>?_) (fun j0=>?_)
  ·refine CY Bp ut [ι (ε w6) ((Bg u q o p m)) 59,ι (ε k1) ((Bg u q o p m)) 59] c2 [(0,0)] fun n4 m0=>?_
   refine Cw m0.H (m0.ix 0) (m0.at 0 rfl) u (ω u q o p m) (Je b0 a0) (ε k1) (m0.ent 1 (by kernel_rfl)) (CL ut) (by kernel_rfl) (.tmp 20) (.tmp 22) 25 (by kernel_rfl) (by kernel_rfl) (by kernel_rfl) (by decide) (by kernel_rfl) (by kernel_rfl) rfl rfl (by ((try simp only [maxLen,List.length_append,List.length_cons,List.length_nil,List.length_singleton]) <;> omega)) fun d1 w0 k4 Hn u2=>?_
   have k3:=m0.put 0 (by simp) u2 Hn
   refine AB (AZ NU) k3 [] fun k2 i3=>?_
   refine AU [(2,τ d1 ((l++[u]).length) w0),(3,τ f j.length d),(4,τ b i.length a),(8,τ (some ⟨c0,d0,none⟩) ds.length x),(9,δ ((ds.length:Int))),(10,δ (IntKind.i64.wrap ((t:Int) + 1)))] fun z3=>?_
   have h3:Wk w k2 [] [(C8 w d1 w0 (l++[u])),(C8 w f d j),(C8 w b a i)] L:=i3.pk [] [0,1,2]
   rw [Bl t (by omega)]
   refine v _ _ ⟨t + 1,(l++[u]),j,i,d1,w0,f,d,b,a,z3,y,rfl,by rw [z,c8,g0,j0] <;> rfl,by ((try simp only [maxLen,List.length_append,List.length_cons,List.length_nil,List.length_singleton]) <;> omega),by ((try simp only [maxLen,List.length_append,List.length_cons,List.length_nil,List.length_singleton]) <;> omega),by ((try simp only [maxLen,List.length_append,List.length_cons,List.length_nil,List.length_singleton]) <;> omega),h3⟩ ?_
   show ds.length - AL (δ ((t + 1:Nat):Int)) < ds.length - AL (δ (t:Int))
   simp only [AL]
   omega
  refine AB UG c2 [] fun i1 b2=>?_
  refine AG (u.kind == 2) (fun r0=>?_) (fun r0=>?_)
  ·refine CY Bp ur [ι (ε w6) ((Bg u q o p m)) 59,ι (ε i1) ((Bg u q o p m)) 59] b2 [(0,0)] fun h4 l0=>?_
   refine Cw l0.H (l0.ix 1) (l0.at 1 rfl) u (ω u q o p m) (Je b0 a0) (ε i1) (l0.ent 1 (by kernel_rfl)) (CL ur) (by kernel_rfl) (.tmp 26) (.tmp 28) 25 (by kernel_rfl) (by kernel_rfl) (by kernel_rfl) (by decide) (by kernel_rfl) (by kernel_rfl) rfl rfl (by ((try simp only [maxLen,List.length_append,List.length_cons,List.length_nil,List.length_singleton]) <;> omega)) fun c1 v0 g4 Hn t2=>?_
   have g3:=l0.put 1 (by simp) t2 Hn
   refine AB (AZ NU) g3 [] fun i2 f3=>?_
   refine AU [(2,τ s l.length r),(3,τ c1 ((j++[u]).length) v0),(4,τ b i.length a),(8,τ (some ⟨c0,d0,none⟩) ds.length x),(9,δ ((ds.length:Int))),(10,δ (IntKind.i64.wrap ((t:Int) + 1)))] fun x3=>?_
   have e3:Wk w i2 [] [(C8 w s r l),(C8 w c1 v0 (j++[u])),(C8 w b a i)] L:=f3.pk [] [0,1,2]
   rw [Bl t (by omega)]
   refine v _ _ ⟨t + 1,l,(j++[u]),i,s,r,c1,v0,b,a,x3,y,rfl,by rw [z,c8,g0,j0,r0] <;> rfl,by ((try simp only [maxLen,List.length_append,List.length_cons,List.length_nil,List.length_singleton]) <;> omega),by ((try simp only [maxLen,List.length_append,List.length_cons,List.length_nil,List.length_singleton]) <;> omega),by ((try simp only [maxLen,List.length_append,List.length_cons,List.length_nil,List.length_singleton]) <;> omega),e3⟩ ?_
   show ds.length - AL (δ ((t + 1:Nat):Int)) < ds.length - AL (δ (t:Int))
   simp only [AL]
   omega
  refine AB e9 b2 [] fun h1 a2=>?_
  refine AG (u.kind == 5) (fun t0=>?_) (fun t0=>?_)
  ·refine CY Bp uq [ι (ε w6) ((Bg u q o p m)) 59,ι (ε h1) ((Bg u q o p m)) 59] a2 [(0,0)] fun f4 k0=>?_
   refine Cw k0.H (k0.ix 2) (k0.at 2 rfl) u (ω u q o p m) (Je b0 a0) (ε h1) (k0.ent 1 (by kernel_rfl)) (CL uq) (by kernel_rfl) (.tmp 32) (.tmp 34) 25 (by kernel_rfl) (by kernel_rfl) (by kernel_rfl) (by decide) (by kernel_rfl) (by kernel_rfl) rfl rfl (by ((try simp only [maxLen,List.length_append,List.length_cons,List.length_nil,List.length_singleton]) <;> omega)) fun b1 s0 e4 Hn s2=>?_
   have c3:=k0.put 2 (by simp) s2 Hn
   refine AB (AZ NU) c3 [] fun h2 b3=>?_
   refine AU [(2,τ s l.length r),(3,τ f j.length d),(4,τ b1 ((i++[u]).length) s0),(8,τ (some ⟨c0,d0,none⟩) ds.length x),(9,δ ((ds.length:Int))),(10,δ (IntKind.i64.wrap ((t:Int) + 1)))] fun w3=>?_
   have a3:Wk w h2 [] [(C8 w s r l),(C8 w f d j),(C8 w b1 s0 (i++[u]))] L:=b3.pk [] [0,1,2]
   rw [Bl t (by omega)]
   refine v _ _ ⟨t + 1,l,j,(i++[u]),s,r,f,d,b1,s0,w3,y,rfl,by rw [z,c8,g0,j0,r0,t0] <;> rfl,by ((try simp only [maxLen,List.length_append,List.length_cons,List.length_nil,List.length_singleton]) <;> omega),by ((try simp only [maxLen,List.length_append,List.length_cons,List.length_nil,List.length_singleton]) <;> omega),by ((try simp only [maxLen,List.length_append,List.length_cons,List.length_nil,List.length_singleton]) <;> omega),a3⟩ ?_
   show ds.length - AL (δ ((t + 1:Nat):Int)) < ds.length - AL (δ (t:Int))
   simp only [AL]
   omega
  refine AB (AZ NU) a2 [] fun g2 z2=>?_
  refine AU [(2,τ s l.length r),(3,τ f j.length d),(4,τ b i.length a),(8,τ (some ⟨c0,d0,none⟩) ds.length x),(9,δ ((ds.length:Int))),(10,δ (IntKind.i64.wrap ((t:Int) + 1)))] fun v3=>?_
  have x2:Wk w g2 [] [(C8 w s r l),(C8 w f d j),(C8 w b a i)] L:=z2.pk [] [0,1,2]
  rw [Bl t (by omega)]
  refine v _ _ ⟨t + 1,l,j,i,s,r,f,d,b,a,v3,y,rfl,by rw [z,c8,g0,j0,r0,t0] <;> rfl,by ((try simp only [maxLen,List.length_append,List.length_cons,List.length_nil,List.length_singleton]) <;> omega),by ((try simp only [maxLen,List.length_append,List.length_cons,List.length_nil,List.length_singleton]) <;> omega),by ((try simp only [maxLen,List.length_append,List.length_cons,List.length_nil,List.length_singleton]) <;> omega),x2⟩ ?_
  show ds.length - AL (δ ((t + 1:Nat):Int)) < ds.length - AL (δ (t:Int))
  simp only [AL]
  omega
 have t1:t=ds.length:=by have:=of_decide_eq_false c5; omega
 rw [t1,List.drop_length,SE] at z
 refine AB AEV K8 [] fun c4 a1=>?_
 have hS:(AW ds)=(l,j,i):=by rw [z] <;> rfl
 exact AK a1 (0,0) (.tuple #[τ s l.length r,τ f j.length d,τ b i.length a]) ⟨s,r,f,d,b,a,by rw [hS] <;> rfl,a1.B,by rw [hS]; exact a1.own [0,1,2] rfl (by decide)⟩
end
end Go.Proofs.YtkjbdagicjbjjaaGreat
namespace Go.Proofs.YtkjbdagicjbjjaaGreat
open Go.RowKit
set_option maxRecDepth 100000
set_option maxHeartbeats 600000
theorem qK {P:Program} {o:Oper} {ρ:Operand→Value} {w:World} {t e:TypeId} {x h:Operand} {g off len cap i:Nat} (hop:o.op=.slice t x none (some h) none) (hu:P.underlying t=some (.slice e)) (hs:MT P e≠none) (hx:ρ x=.slice (some ⟨g,off,none⟩) len cap) (c:ρ h=δ (i:Nat)) (hi:i≤cap):(execOp ρ o).run P w=.ok (.value (.slice (some ⟨g,off,none⟩) i cap)) w:=by
 obtain ⟨sz,b⟩:=Option.ne_none_iff_exists'.1 hs
 have d:¬ (cap:Int) < (i:Int):=by omega
 have a:(⟨g,off,none⟩:Addr).add 0=⟨g,off,none⟩:=rfl
 simp [execOp,hop,hx,c,Instr.sliceAt,Instr.slice,run_underlying hu,I6 b,Instr.sliceBounds,Instr.sliceBound,asIntOf,hi,d,a]
theorem Gn {w:World} {e:A7} (h:e.good w):w.rangeAt e.id e.off e.cells:=fun _ _ hv=>Ec h hv rfl rfl rfl
theorem S8 {w:World}:∀ {ds:List Df} {rs:List (List Value)} (i:Nat),EY CN w ds rs→EY CN w (ds.take i) (rs.take i)
 | ds,rs,0,_=>by rw [List.take_zero,List.take_zero]; unfold EY; rfl
 | [],rs,i + 1,h=>by unfold EY at h; subst h; rw [List.take_nil,List.take_nil]; unfold EY; rfl
 | d :: ds,rs,i + 1,h=>by
  unfold EY at h
  obtain ⟨c,b,rfl,a,h2⟩:=h
  rw [List.take_succ_cons,List.take_succ_cons]
  unfold EY
  exact ⟨c,_,rfl,a,S8 i h2⟩
theorem MU {w:World} {n:Nat} {A:Option Addr} {rs:List (List Value)} (h:DH CN w n A rs) (i:Nat):DH CN w n A (rs.take i):=by
 rcases h with h | ⟨g,off,rfl,h2,hg,hc⟩
 ·subst h; rw [List.take_nil]; exact .inl rfl
 refine .inr ⟨g,off,rfl,h2,hg,fun j r a=>hc j r ?_⟩
 rw [List.getElem?_take] at a
 split at a
 ·exact a
 cases a
theorem rowsDf.take {w:World} {A:Option Addr} {ds:List Df} (h:rowsDf w A ds) (i:Nat):rowsDf w A (ds.take i):=
 let ⟨_,h1,h2⟩:=h
 ⟨_,S8 i h1,MU h2 i⟩
end Go.Proofs.YtkjbdagicjbjjaaGreat

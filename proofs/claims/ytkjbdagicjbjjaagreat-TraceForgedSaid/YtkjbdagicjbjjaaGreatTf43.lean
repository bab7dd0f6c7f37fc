/-
  Part 43 of a proof: contracts of functions.
-/
import Derived.Test.YtkjbdagicjbjjaaGreatTf42
import Derived.Test.YtkjbdagicjbjjaaGreatTf18
set_option linter.all false
namespace Go.Proofs.YtkjbdagicjbjjaaGreat
noncomputable section
open Go.RowKit
set_option maxRecDepth 100000
set_option maxHeartbeats 1000000
theorem Yg {α:Type} {P:Program} {T:TypeId} {n:Nat} {e:α→List Value→Prop} {b:Nat} {A:Option Addr} {c:Nat} {l:List α} {L:List Th} {w:World} {ρ:Operand→Value} (H:Ac b w L) (i:Nat) (hi:L[i]?=some (Th.row T n e A c l)) (es:List α) (rows:List (List Value)) (p:EF e es rows) (ad:Addr) (cx:Nat)
  (a0:∀ j u,rows.flatten[j]?=some u→w.cell? (ad.add j)=some u) (o:Oper) (s x:Operand) (t:TypeId) (ho:o.op=.call { callee:=.builtin .append,args:=#[s,x],argTypes:=#[t,t] })
  (ht:P.underlying t=some (.slice T)) (a:(P.info? T).map (fun i=>(i.zero.map (·.cells.size),i.size,Nat.ble i.bytes 1024))=some (some n,n,true)) (g0:0 < n)
  (hs:ρ s=.slice A l.length c) (hx:ρ x=.slice (some ad) es.length cx) (hn:∀ r∈rows,r.length=n) (h1:∀ r∈rows,r.all (·.oneCell')=true) (d0:l.length + es.length≤100000000000) :
  ∃ g k w',(execOp ρ o).run P w=.ok (.value (.slice g (l++es).length k)) w'∧Ac b w' (L.set i (Th.row T n e g k (l++es)))∧Below b w w':=by
 obtain ⟨rs,i0,hP⟩:(Th.row T n e A c l).P w:=H.all i _ hi
 obtain ⟨d,k0,z,hz,e0,v,m0⟩:∃ d,P.info? T=some d∧∃ z,d.zero=some z∧z.cells.size=n∧d.size=n∧d.bytes≤1024:=by
  cases hi:P.info? T with
  | none=>rw [hi] at a; cases a
  | some d=>
   rw [hi] at a
   simp only [Option.map_some,Option.some.injEq,Prod.mk.injEq,Option.map_eq_some_iff] at a
   obtain ⟨⟨z,h1,h2⟩,f,h4⟩:=a
   exact ⟨d,rfl,z,h1,h2,f,Nat.le_of_ble_eq_true h4⟩
 have n0:l.length + es.length≤maxLen:=by unfold maxLen; omega
 have m:(l.length + es.length) * d.bytes≤140737488355328:=Nat.le_trans (Nat.mul_le_mul d0 m0) (by decide)
 have l0:∀ q:List (List Value),(∀ r∈q,r.length=n)→q.flatten.length=q.length * n:=fun q=>by
  induction q with
  | nil=>intro _; simp
  | cons r q ih=>intro h; rw [List.flatten_cons,List.length_append,ih (fun r hr=>h r (by simp [hr])),h r (by simp),List.length_cons,Nat.succ_mul]; omega
 obtain ⟨v',w',hr,h2,f,_,h5⟩:=run_append_own_at (P:=P) (w:=w) 0 t o.type T d z n d.bytes ht k0 hz v rfl e0 g0 _ _ _ hP ad es.length cx rows.flatten (by rw [l0 rows hn,FO p]) a0 (fun u hu=>by obtain ⟨r,hr,hu⟩:=List.mem_flatten.1 hu; exact List.all_eq_true.1 (h1 r hr) u hu) n0 m (Nat.zero_le _)
 have hv:∃ g k,v'=.slice g (l.length + es.length) k:=by
  rcases h2.2 with ⟨f,h0⟩ | ⟨g',cap,p0,rfl,_⟩
  ·exact ⟨none,0,by rw [f,h0]⟩
  ·exact ⟨_,cap,rfl⟩
 obtain ⟨g,k,rfl⟩:=hv
 have c0:(Th.row T n e g k (l++es)).P w':=⟨rs++rows,N6 i0 p,by
  rw [List.length_append,List.flatten_append]
  exact h2⟩
 have hF:∀ q,(Th.row T n e g k (l++es)).F q→q < w'.heap.size∧((Th.row T n e A c l).F q∨w.heap.size≤q):=fun q hq=>by
  have y:(Value.slice g (l.length + es.length) k).ownBlock=some q:=by rw [show g=IN q from hq]; rfl
  refine ⟨(JP h2 y).2,?_⟩
  rcases h5 with h5 | h5
  ·exact .inl (Cw hP (h5.symm.trans y)).1
  ·right
   have:q=w.heap.size:=Option.some.inj (y.symm.trans h5)
   omega
 have b0:∀ q,q < w.heap.size→¬ (Th.row T n e A c l).F q→w'.heap[q]?=w.heap[q]?:=fun q hq j0=>f.block q hq fun he=>j0 (Cw hP he.symm).1
 have H':Ac b w' (L.set i (Th.row T n e g k (l++es))):=H.set i hi f.size c0 hF b0
 have hB:Below b w w':=⟨f.os,f.tape,f.output,f.size,fun q hq=>f.block q (Nat.lt_of_lt_of_le hq H.base) fun he=>by
  have:=(H.lo i _ hi q (Cw hP he.symm).1).1
  omega⟩
 refine ⟨g,k,w',?_,H',hB⟩
 rw [List.length_append]
 unfold execOp
 simp only [ho,resolve,invoke,builtin,Sem.run_bind,Sem.run_pure,Result.andThen_ok,List.map_toArray,List.map_cons,List.map_nil,hs,hx,hr]
theorem Yi {P:Program} {ops:Array Oper} {Q:Exit→Act→World→Prop} {n:Nat} {E:Nat→Value} {a:Array Bool} {fuel:Nat} {w w':World} (i:Nat) {v:Value} (hx:(execOp (Ax n E) (ops.getD i default)).run P w=.ok (.value v) w') (b:wpAny P .any ops Q fuel (a.setIfInBounds i true) (Fr n (Aq E (ops.getD i default).dst v)) w')
  (hc:(Region.ready .any ops a,Nat.blt i ops.size,(ops.getD i default).guard)=([i],true,none):=by kernel_rfl):wpAny P .any ops Q (fuel + 1) a (Fr n E) w:=by
 simp only [Prod.mk.injEq] at hc
 obtain ⟨e,c,d⟩:=hc
 rw [Nat.blt_eq] at c
 refine Jc e (o:=ops.getD i default) (by simp [Array.getD,c]) d ?_
 unfold Oper.wp
 rw [Db,hx]
 rw [← EJ] at b
 exact b
theorem Ac.merge {b:Nat} {w:World} {L:List Th} {s t m:Th} (h:Ac b w (L++[t])) (i:Nat) (hi:L[i]?=some s) (hP:m.P w) (z:∀ k,m.F k→s.F k∨t.F k):Ac b w (L.set i m):=by
 have y:=(List.getElem?_eq_some_iff.1 hi).1
 have a:∀ (q:Nat) (u:Th),L[q]?=some u→(L++[t])[q]?=some u:=fun q u hu=>by rw [List.getElem?_append_left (List.getElem?_eq_some_iff.1 hu).1]; exact hu
 have c:(L++[t])[L.length]?=some t:=by rw [List.getElem?_append_right (Nat.le_refl _),Nat.sub_self]; rfl
 have hg:∀ (q:Nat) (u:Th),(L.set i m)[q]?=some u→(q=i∧u=m)∨(q≠i∧L[q]?=some u):=fun q u hu=>by
  rw [List.getElem?_set] at hu
  by_cases j:i=q
  ·rw [if_pos j,if_pos y] at hu
   exact .inl ⟨j.symm,(Option.some.inj hu).symm⟩
  ·rw [if_neg j] at hu
   exact .inr ⟨fun e=>j e.symm,hu⟩
 refine ⟨h.base,fun q u hu=>?_,fun q u hu k d=>?_,fun p q u v hu hv n k d=>?_⟩
 ·rcases hg q u hu with ⟨_,rfl⟩ | ⟨_,hu⟩
  ·exact hP
  ·exact h.all q u (a q u hu)
 ·rcases hg q u hu with ⟨_,rfl⟩ | ⟨_,hu⟩
  ·rcases z k d with d | d
   ·exact h.lo i s (a i s hi) k d
   ·exact h.lo L.length t c k d
  ·exact h.lo q u (a q u hu) k d
 ·rcases hg p u hu with ⟨x,r⟩ | ⟨x,l⟩
  ·subst r
   rcases hg q v hv with ⟨j,_⟩ | ⟨j,g⟩
   ·exact absurd (x.trans j.symm) n
   ·have a0:=(List.getElem?_eq_some_iff.1 g).1
    rcases z k d with d | d
    ·exact h.apart i q s v (a i s hi) (a q v g) (fun e=>j e.symm) k d
    ·exact h.apart L.length q t v c (a q v g) (by omega) k d
  ·have b0:=(List.getElem?_eq_some_iff.1 l).1
   rcases hg q v hv with ⟨j,o⟩ | ⟨j,g⟩
   ·intro f
    rw [o] at f
    rcases z k f with f | f
    ·exact h.apart p i u s (a p u l) (a i s hi) x k d f
    ·exact h.apart p L.length u t (a p u l) c (by omega) k d f
   ·exact h.apart p q u v (a p u l) (a q v g) n k d
theorem Wk.merge {w0 w:World} {M:List Az} {L:List Th} {s t m:Th} (K:Wk w0 w M (L++[t]) []) (i:Nat) (hi:L[i]?=some s) (a:m.P w) (b:∀ k,m.F k→s.F k∨t.F k):Wk w0 w M (L.set i m) []:=by
 refine ⟨K.B,?_⟩
 have h:=K.H
 rw [List.append_nil] at h ⊢
 rw [← List.append_assoc] at h
 have h2:=h.merge (M.length + i) (s:=s) (by rw [List.getElem?_append_right (by rw [List.length_map]; omega),List.length_map,Nat.add_sub_cancel_left]; exact hi) a b
 rwa [List.set_append,if_neg (by rw [List.length_map]; omega),List.length_map,Nat.add_sub_cancel_left] at h2
theorem Pc {P:Program} {o:Oper} {ρ:Operand→Value} {α:Type} {T:TypeId} {n:Nat} {d:α→List Value→Prop} {b g c:Nat} {l:List α} {L:List Th} {w:World} (H:Ac b w L) (i:Nat) (hi:L[i]?=some (Th.row T n d (IN g) c l))
  (j:Nat) (e':α) (a:List Value) (hj:j < l.length) (p:d e' a) (hn:∀ e r,d e r→r.length=n) {t:TypeId} {x y:Operand} (ho:o.op=.store t x y) (hx:ρ x=.pointer (some ⟨g,0 + j * n,none⟩)) (hy:ρ y=.agg ⟨a⟩) (d0:JO P t=some n) (h1:a.all (·.oneCell')=true) :
  ∃ w',(execOp ρ o).run P w=.ok .skip w'∧Ac b w' (L.set i (Th.row T n d (IN g) c (l.set j e')))∧Below b w w':=by
 obtain ⟨rs,v,hP⟩:(Th.row T n d (IN g) c l).P w:=H.all i _ hi
 rcases hP.2 with ⟨h0,_⟩ | ⟨g',cap,m,hA,_,hg,n0,m0,l0,ht⟩
 ·cases h0
 obtain ⟨rfl,rfl⟩:g=g'∧c=cap:=by
  injection hA with e1 e2 e3
  injection e1 with e1
  injection e1 with e1
  exact ⟨e1,e3⟩
 have h:=Hx hn v
 have e0:rs.length=l.length:=FO v
 have k:=hn _ _ p
 have k0:(j + 1) * n≤c * n:=Nat.mul_le_mul_right n (by omega)
 rw [Nat.succ_mul] at k0
 have b0:(0 + j * n) + 0 + a.length≤m.size:=by rw [l0,k]; omega
 have a0:=run_storeCells_at P g (0 + j * n) T a 0 m w hg b0 (fun u hu=>List.all_eq_true.1 h1 u hu)
 rw [Nat.add_zero,Nat.zero_add] at a0
 have j0:=H.lo i _ hi g rfl
 have c0:∀ nw:List Value,nw.length=c * n→nw.take (l.length * n)=(rs.set j a).flatten→Ac b (w.setRow g nw.toArray) (L.set i (Th.row T n d (IN g) c (l.set j e')))∧Below b w (w.setRow g nw.toArray):=fun nw i0 g0=>by
  have f:(w.setRow g nw.toArray).heap.size=w.heap.size:=by unfold World.setRow; simp
  refine ⟨H.set i hi (by rw [f]; exact Nat.le_refl _) (show (Th.row T n d (IN g) c (l.set j e')).P _ from ⟨rs.set j a,Lf p j v,?_,.inr ⟨g,c,_,by rw [List.length_set],Nat.zero_le _,setRow_heap w g m _ T _ hg,by rw [List.length_set]; exact n0,m0,by simpa using i0,by rw [List.length_set]; simpa using g0⟩⟩) (fun q hq=>⟨?_,.inl hq⟩) (fun q _ hf=>setRow_other w g q _ fun e=>hf (by rw [e]; rfl)),⟨rfl,rfl,rfl,by rw [f]; exact Nat.le_refl _,fun q hq=>setRow_other w g q _ fun e=>by omega⟩⟩
  ·have s:∀ r∈rs.set j a,r.length=n:=fun r hr=>by
    rcases List.mem_or_eq_of_mem_set hr with hr | rfl
    ·exact h r hr
    ·exact k
   rw [show (l.set j e').length=(rs.set j a).length by rw [List.length_set,List.length_set,e0]]
   generalize rs.set j a=q at s
   induction q with
   | nil=>simp
   | cons r q ih=>rw [List.flatten_cons,List.length_append,s r (by simp),ih fun r hr=>s r (by simp [hr]),List.length_cons,Nat.succ_mul]; omega
  ·obtain rfl:g=q:=by have:=Option.some.inj hq; injection this
   rw [f]
   exact j0.2
 have z:∀ (rs:List (List Value)) (j:Nat),(∀ r∈rs,r.length=n)→j < rs.length→(rs.set j a).flatten=rs.flatten.take (j * n)++a++rs.flatten.drop (j * n + n):=by
  intro rs
  induction rs with
  | nil=>intro j _ hj; simp at hj
  | cons r rs ih=>
   intro j hw hj
   have hr:=hw r (by simp)
   cases j with
   | zero=>simp [hr]
   | succ j=>
    have:=ih j (fun q hq=>hw q (by simp [hq])) (by simpa using hj)
    rw [List.set_cons_succ,List.flatten_cons,this,List.flatten_cons,show (j + 1) * n=n + j * n by rw [Nat.succ_mul,Nat.add_comm]]
    generalize rs.flatten=Fl
    have e1:(r++Fl).take (n + j * n)=r++Fl.take (j * n):=by rw [List.take_append,hr,List.take_of_length_le (by omega),Nat.add_sub_cancel_left]
    have e2:(r++Fl).drop (n + j * n + n)=Fl.drop (j * n + n):=by
     rw [List.drop_append,hr,List.drop_eq_nil_of_le (by omega),List.nil_append]
     congr 1
     omega
    rw [e1,e2]
    simp
 obtain ⟨h8,h9⟩:=c0 (m.toList.take (j * n)++a++m.toList.drop (j * n + a.length)) (by
  simp only [List.length_append,List.length_take,List.length_drop,Array.length_toList]
  omega) (by
  rw [z rs j h (by omega),← ht]
  have p0:j * n + n≤l.length * n:=by
   have:=Nat.mul_le_mul_right n (show j + 1≤l.length from hj)
   rwa [Nat.succ_mul] at this
  rw [k,List.take_take,Nat.min_eq_left (by omega),List.drop_take,List.take_append,List.take_of_length_le (by simp; omega)]
  congr 1
  simp only [List.length_append,List.length_take,Array.length_toList,k]
  congr 1
  omega)
 refine ⟨_,?_,h8,h9⟩
 unfold execOp
 simp only [ho,hx,hy]
 have h3:(⟨a⟩:Array Value).size=n:=k
 have h4:(Value.agg ⟨a⟩).cells=⟨a⟩:=rfl
 simp [Instr.storeAt,Instr.sureAddr,storeVar,Gs d0,h4,h3,a0]
attribute [local irreducible] A8 BL AC AD AF Ao AY AL Aq Bb Cn BR GR Dx Cm BK At Fr
theorem Wk.newerT {w0 u w:World} {M:List Az} {X T:List Th} {b:Nat} {ns:List Int} (K:Wk w0 u M (BH w0 b ns :: Bj b w :: X) T) (f:w0.heap.size=b) (j:Nat) {t:Th} (d:X[j]?=some t) {k:Nat} (c:t.F k):w.heap.size≤k:=by
 have hx:(BH w0 b ns :: Bj b w :: X)[j + 2]?=some t:=d
 have e:=(K.H.lo (K.ix (j + 2)) _ (K.at (j + 2) hx) k c).1
 refine Nat.le_of_not_lt fun a=>?_
 by_cases hb:k=b
 ·exact K.H.apart (K.ix (j + 2)) (K.ix 0) _ _ (K.at (j + 2) hx) (K.at 0 rfl) (by unfold Wk.ix; omega) k c hb
 ·exact K.H.apart (K.ix (j + 2)) (K.ix 1) _ _ (K.at (j + 2) hx) (K.at 1 rfl) (by unfold Wk.ix; omega) k c ⟨by omega,a⟩
def CV (nm:List UInt8) (t:Ty) (frm:Int) (es:List (Int×Int×Int)):Df:=⟨2,nm,t.1,t.2.1,t.2.2.1,t.2.2.2,frm,es,BO,0,0,0⟩
def Et (es:List (Int×Int×Int)):Prop:=es.length≤3∧∀ e∈es,0≤e.1∧e.1≤12∧e.2∈Ho
def F8 (lo:Nat) (Pd:Df→Prop) (v:Value) (u:World):Prop:=∃ d A1 c1 A2 c2,v=.agg ⟨Be d A1 c1 A2 c2⟩∧Pd d∧FC (fun g=>lo≤g) u d (Be d A1 c1 A2 c2)
def DfP (b:Nat) (ns:List Int) (Pd:Df→Prop) (w:World) (e:Ending) (w':World):Prop:=∃ v,e=.returned v∧F8 w.heap.size Pd v w'∧BW b ns w'∧CE b w w'
theorem Xc {S:Nat→Prop} {w:World}:Cz S w BO (AW BO none 0):=V2 rfl
noncomputable def X5:Code:=Tryz.f20.body.getD .skip
def oz:=AA 60 [.code X5]
def oy:=AA 60 (AC oz)
def ZQ:=AA 60 (AC oy)
def ZP:=AA 60 (Ao ZQ)
def ZO:=AA 60 (AD ZP)
def zv:=AA 60 (AL ZO)
def zu:=AA 60 (AF ZP)
theorem VN (b:Nat) (ns:List Int) (nm:List UInt8) (t:Ty) (frm:Int) (w:World) (m:BW b ns w):Calls Tryz.prog 20 ([BY b,By nm,.agg ⟨Av t⟩,AI frm]:List Value).toArray w (DfP b ns (fun d=>∃ es,d=CV nm t frm es∧Et es) w):=by
 refine AR (args:=[BY b,By nm,.agg ⟨Av t⟩,AI frm]) (fn:=Tryz.f20) (c:=X5) (n:=40) ?_
 obtain ⟨w0,j,K0⟩:=Wk.tape m
 have hw:=K0.B
 refine Af oz [⟨w.heap.size,0,Av t,56,true⟩,⟨w.heap.size + 1,0,Be ⟨0,[],false,0,0,0,0,[],BO,0,0,0⟩ none 0 none 0,59,true⟩,⟨w.heap.size + 2,0,Be (CV nm t frm []) none 0 none 0,59,true⟩] (K0.addNil 101 3 (fun (e:Int×Int×Int) r=>r=Hm e)) [(0,0),(2,0)] fun w1 K1=>?_
 refine BE K1 j 0 rfl (args:=[BY b,AI 2]) (BM b ns 2 _ (K1.tapeOk j 0 rfl) (by omega) (by omega)) BQ.ok fun e w2 f K2=>?_
 obtain ⟨k2,l0,rfl,_,_⟩:=f
 refine ⟨_,rfl,?_⟩
 refine AB oy K2 [] fun w3 a=>?_
 refine BE a j 0 rfl (args:=[BY b,AI 3]) (BM b ns 3 _ (a.tapeOk j 0 rfl) (by omega) (by omega)) BQ.ok fun e w4 f K4=>?_
 obtain ⟨k4,k0,rfl,_,_⟩:=f
 refine ⟨_,rfl,?_⟩
 refine AB ZQ K4 [] fun w5 K5=>?_
 refine AU [(0,BY b),(8,BY (w.heap.size + 1)),(9,BY (w.heap.size + 2)),(10,AI (k2:Int)),(11,AI (IntKind.i64.wrap (1 + (k4:Int))))] fun E5=>?_
 rw [show IntKind.i64.wrap (1 + (k4:Int))=((k4 + 1:Nat):Int) by rw [IntWalk.i64_in _ (by omega)]; omega]
 refine Bd (by kernel_rfl) (fun E wx=>∃ (i:Nat) (key:Int) (es:List (Int×Int×Int)) (A:Option Addr) (c:Nat) (E0:Nat→Value),i≤3∧E=BC E0 [(0,BY b),(8,BY (w.heap.size + 1)),(9,BY (w.heap.size + 2)),(10,AI key),(11,AI (i:Int))]∧Et es∧es.length + i≤3∧0≤key∧key + i * 4≤13∧Wk w0 wx [⟨w.heap.size,0,Av t,56,true⟩,⟨w.heap.size + 1,0,Be ⟨0,[],false,0,0,0,0,[],BO,0,0,0⟩ none 0 none 0,59,true⟩,⟨w.heap.size + 2,0,Be (CV nm t frm es) A c none 0,59,true⟩] [BH w0 b ns,Bj b w,R8 A c es] []) (fun E _=>AK (E 11)) ⟨k4 + 1,k2,[],none,0,E5,by omega,rfl,⟨Nat.zero_le _,fun e he=>by cases he⟩,by simp; omega,by omega,by omega,K5⟩ ?_
 clear K0 K1 K2 a K4 K5
 rintro E wx ⟨i,key,es,A,c,E0,hi,rfl,k,p0,b0,m0,K1⟩ l
 refine AB ZP K1 [] fun w2 K2=>?_
 refine AG (decide (0 < (i:Int))) (fun hc=>?_) (fun _=>?_)
 ·have n0:0 < i:=by have:=of_decide_eq_true hc; omega
  refine AB ZO K2 [] fun w3 a=>?_
  refine AU [(0,BY b),(8,BY (w.heap.size + 1)),(9,BY (w.heap.size + 2)),(10,AI key),(11,AI (i:Int))] fun E3=>?_
  refine Ee a j 0 rfl [0,1,2,3,4,5,6] [⟨w.heap.size,0,Av t,56,true⟩,⟨w.heap.size + 1,0,Be ⟨0,[],false,0,0,0,0,[],BO,0,0,0⟩ none 0 none 0,59,true⟩,⟨w.heap.size + 2,0,Be (CV nm t frm es) A c none 0,59,true⟩] [(1,2,7)] [(4,fun v _=>∃ q∈Ho,v=.agg ⟨[AI q.1,AI q.2]⟩),(5,fun v _=>∃ q∈Ho,v=.agg ⟨[AI key,AI q.1,AI q.2]⟩),(6,fun v u=>∃ q∈Ho,∃ g,v=.slice (IN g) 1 1∧g≠b∧Az.good u ⟨g,0,[AI key,AI q.1,AI q.2],101,true⟩)] 3 (fun u hu=>hu.G) (fun p o=>?_) (fun p o X u hu c0 hf=>?_) fun X u hu c0 hf=>?_
  ·simp only [List.mem_cons,List.not_mem_nil,or_false] at o
   rcases o with rfl | rfl | rfl
   ·exact fun _ _ _ _ h=>h
   ·exact fun _ _ _ _ h=>h
   ·exact fun v u u' he ⟨q,f,g,y,h2,h3⟩=>⟨q,f,g,y,h2,F6 h3 he.size (he.block g h3.1 h2)⟩
  ·have m:=hu.tapeOk j 0 rfl
   simp only [List.mem_cons,List.not_mem_nil,or_false] at o
   rcases o with rfl | rfl | rfl
   ·exact Bn (g:=34) (xs:=[.tmp 28]) (args:=[BY b]) ((yv b ns u m).mono fun e w' ⟨q,y,h2,h3,h4⟩=>⟨_,h2,h3,h4,q,y,rfl⟩) rfl
   ·obtain ⟨q,f,e1⟩:∃ q∈Ho,X 4=.agg ⟨[AI q.1,AI q.2]⟩:=hf 4 (by kernel_rfl) rfl
    exact AM.over [(29,.agg ⟨[AI q.1,AI q.2]⟩)] ⟨Eq.trans (b:=X 4) (by kernel_rfl) e1,trivial⟩ (AM.reads ⟨0,[],(0,0),[]⟩ (fun e he=>by cases he) (.agg ⟨[AI key,AI q.1,AI q.2]⟩) ⟨m,CE.refl b u,q,f,rfl⟩)
   ·obtain ⟨q,f,e1⟩:∃ q∈Ho,X 5=.agg ⟨[AI key,AI q.1,AI q.2]⟩:=hf 5 (by kernel_rfl) rfl
    exact AM.over [(30,.agg ⟨[AI key,AI q.1,AI q.2]⟩)] ⟨Eq.trans (b:=X 5) (by kernel_rfl) e1,trivial⟩ (HE (fun z=>.slice (IN z) 1 1) [AI key,AI q.1,AI q.2] 101 (fun w' hB hg=>⟨m.below hB,.of_below hB,q,f,u.heap.size,rfl,Nat.ne_of_gt m.lt,hg⟩) (by intro z; kernel_rfl))
  obtain ⟨q,f,g,e1,_,hg⟩:∃ q∈Ho,∃ g,X 6=.slice (IN g) 1 1∧g≠b∧Az.good u ⟨g,0,[AI key,AI q.1,AI q.2],101,true⟩:=hf 6 (by simp) rfl
  refine CI [(0,BY b),(8,BY (w.heap.size + 1)),(9,BY (w.heap.size + 2)),(10,AI key),(11,AI (i:Int)),(26,.slice A es.length c),(31,X 6)] fun E4=>?_
  rw [e1]
  have g0:=k.1
  obtain ⟨A',c',w6,hx,Hn,b6⟩:=Yg (ρ:=Ax 40 _) hu.H (hu.ix 2) (hu.at 2 rfl) [(key,q.1,q.2)] [Hm (key,q.1,q.2)] ⟨rfl,trivial⟩ ⟨g,0,none⟩ 1 (ID (n:=3) (C8 (rs:=[Hm (key,q.1,q.2)]) (fun r hr=>by rw [List.mem_singleton.1 hr]; rfl) (by simpa using hg)) (fun r hr=>by rw [List.mem_singleton.1 hr]; rfl)) ((AS ZO).getD 7 default) (.tmp 26) (.tmp 31) 57 (by kernel_rfl) (by kernel_rfl) (by kernel_rfl) (by decide) (by kernel_rfl) (by kernel_rfl) (fun r hr=>by rw [List.mem_singleton.1 hr]; rfl) (fun r hr=>by rw [List.mem_singleton.1 hr]; rfl) (by simp; omega)
  refine Yi 7 hx ?_
  have K6:Wk w0 w6 [⟨w.heap.size,0,Av t,56,true⟩,⟨w.heap.size + 1,0,Be ⟨0,[],false,0,0,0,0,[],BO,0,0,0⟩ none 0 none 0,59,true⟩,⟨w.heap.size + 2,0,Be (CV nm t frm es) A c none 0,59,true⟩] [BH w0 b ns,Bj b w,R8 A' c' (es++[(key,q.1,q.2)])] []:=hu.put 2 (by simp) b6 Hn
  refine Dv K6 [(8,0,0),(9,2,7)] (fun _=>[⟨w.heap.size,0,Av t,56,true⟩,⟨w.heap.size + 1,0,Be ⟨0,[],false,0,0,0,0,[],BO,0,0,0⟩ none 0 none 0,59,true⟩,⟨w.heap.size + 2,0,Be (CV nm t frm (es++[(key,q.1,q.2)])) A' c' none 0,59,true⟩]) fun z w7 K7=>?_
  refine AU [(0,BY b),(8,BY (w.heap.size + 1)),(9,BY (w.heap.size + 2)),(10,AI key),(11,AI (i:Int))] fun E7=>?_
  refine AB zv K7 [] fun w8 K8=>?_
  refine BE K8 j 0 rfl (args:=[BY b,AI 4]) (BM b ns 4 _ (K8.tapeOk j 0 rfl) (by omega) (by omega)) BQ.ok fun e w9 a0 K9=>?_
  obtain ⟨k9,j0,rfl,_,_⟩:=a0
  refine ⟨_,rfl,?_⟩
  refine AB (AY ZQ) K9 [] fun i0 d0=>?_
  refine AU [(0,BY b),(8,BY (w.heap.size + 1)),(9,BY (w.heap.size + 2)),(10,AI (IntKind.i64.wrap (key + IntKind.i64.wrap (1 + (k9:Int))))),(11,AI (IntKind.i64.wrap ((i:Int) - 1)))] fun e0=>?_
  rw [IntWalk.i64_in (1 + (k9:Int)) (by omega),IntWalk.i64_in (key + (1 + (k9:Int))) (by omega),show IntKind.i64.wrap ((i:Int) - 1)=((i - 1:Nat):Int) by rw [IntWalk.i64_in _ (by omega)]; omega]
  refine l _ _ ⟨i - 1,key + (1 + (k9:Int)),es++[(key,q.1,q.2)],A',c',e0,by omega,rfl,⟨by simp; omega,fun e he=>?_⟩,by simp; omega,by omega,by omega,d0⟩ ?_
  ·rcases List.mem_append.1 he with he | he
   ·exact k.2 e he
   ·rw [List.mem_singleton.1 he]
    exact ⟨b0,by show key≤12; omega,f⟩
  ·show AK (AI ((i - 1:Nat):Int)) < AK (AI (i:Int))
   simp only [AK]
   omega
 ·refine Af zu [⟨w.heap.size,0,Av t,56,true⟩,⟨w.heap.size + 1,0,Be (CV nm t frm es) A c none 0,59,true⟩,⟨w.heap.size + 2,0,Be (CV nm t frm es) A c none 0,59,true⟩] K2 [(2,0),(1,0)] fun w3 a=>?_
  refine AJ a (1,0) (.agg ⟨Be (CV nm t frm es) A c none 0⟩) ⟨_,rfl,⟨_,A,c,none,0,rfl,⟨es,rfl,k⟩,A,c,AW BO none 0,Xc,?_,rfl⟩,a.out j hw⟩
  rcases (show DI Ca w3 3 A (es.map Hm) from a.H.rowsF (fun _=>rfl) (a.ix 2) (a.at 2 rfl)) with y | ⟨g,off,hA,_,h2⟩
  ·exact .inl y
  ·refine .inr ⟨g,off,hA,?_,h2⟩
   obtain ⟨g',rfl,_⟩:∃ g',A=IN g'∧True:=by
    cases hl:es with
    | nil=>
     rcases ((show (R8 A c es).P w3 from a.H.all (a.ix 2) _ (a.at 2 rfl))) with ⟨rs,_,ho⟩
     rcases ho.2 with ⟨s,_⟩ | ⟨g9,_,_,s,_⟩
     ·rw [show A=none by simp only [Value.slice.injEq] at s; exact s.1] at hA
      cases hA
     ·exact ⟨g9,by simp only [Value.slice.injEq] at s; exact s.1,trivial⟩
    | cons x r=>
     obtain ⟨g9,h9,_⟩:=a.H.rowAt (a.ix 2) (a.at 2 rfl) (by rw [hl]; exact Nat.succ_pos _)
     exact ⟨g9,h9,trivial⟩
   obtain ⟨rfl,_⟩:g'=g∧0=off:=by simpa using hA
   exact a.newerT j 0 rfl (show (R8 (IN g') c es).F g' from rfl)
end
end Go.Proofs.YtkjbdagicjbjjaaGreat

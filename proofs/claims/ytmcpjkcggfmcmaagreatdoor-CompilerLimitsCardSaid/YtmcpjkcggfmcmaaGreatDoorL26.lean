/-
  Part 26 of a proof: contracts of functions.
-/
import Derived.Test.YtmcpjkcggfmcmaaGreatDoorL25
set_option linter.all false
namespace Go.Proofs.YtmcpjkcggfmcmaaGreatDoor
open Go.RowKit
set_option maxRecDepth 100000
set_option maxHeartbeats 600000
theorem AY.mono {b b':Nat} {w:World} {L:List Th} (h:AY b w L) (hb:b'≤b):AY b' w L:=
 ⟨Nat.le_trans hb h.base,h.all,fun i t ht k hf=>⟨Nat.le_trans hb (h.lo i t ht k hf).1,(h.lo i t ht k hf).2⟩,h.apart⟩
section
variable {P:Program} {α:Type} {T:TypeId} {n:Nat} {rel:α→List Value→Prop} {b:Nat} {A:Option Addr} {c:Nat} {l:List α} {L:List Th} {w:World} {k:Nat} {E:Nat→Value}
theorem aW (H:AY b w L) (i:Nat) (hi:L[i]?=some (Th.row T n rel A c l)) (e:α) (row:List Value) (hrel:rel e row) (g:Nat)
  (hgood:BM.good w ⟨g,0,row,T,true⟩) (o:Oper) (s x:Operand) (t:TypeId) (ho:o.op=.call { callee:=.builtin .append,args:=#[s,x],argTypes:=#[t,t] })
  (ht:P.underlying t=some (.slice T)) (hinfo:(P.info? T).map (fun i=>(i.zero.map (·.cells.size),i.size,Nat.ble i.bytes 1024))=some (some n,n,true)) (hsz:0 < n)
  (hs:BJ k E s=.slice A l.length c) (hx:BJ k E x=.slice (some ⟨g,0,none⟩) 1 1) (hn:row.length=n) (h1:row.all (·.oneCell')=true) (hlen:l.length + 1≤100000000000) :
  ∃ A' c' w',(execOp (BJ k E) o).run P w=.ok (.value (.slice A' (l++[e]).length c')) w'∧AY b w' (L.set i (Th.row T n rel A' c' (l++[e])))∧Below b w w':=by
 obtain ⟨rs,hrs,hP⟩:(Th.row T n rel A c l).P w:=H.all i _ hi
 obtain ⟨inf,hin,z,hz,hzs,hsize,hby⟩:∃ inf,P.info? T=some inf∧∃ z,inf.zero=some z∧z.cells.size=n∧inf.size=n∧inf.bytes≤1024:=by
  cases hi:P.info? T with
  | none=>rw [hi] at hinfo; cases hinfo
  | some inf=>
   rw [hi] at hinfo
   simp only [Option.map_some,Option.some.injEq,Prod.mk.injEq,Option.map_eq_some_iff] at hinfo
   obtain ⟨⟨z,h1,h2⟩,h3,h4⟩:=hinfo
   exact ⟨inf,rfl,z,h1,h2,h3,Nat.le_of_ble_eq_true h4⟩
 have h63:l.length + 1≤maxLen:=by unfold maxLen; omega
 have hbytes:(l.length + 1) * inf.bytes≤140737488355328:=Nat.le_trans (Nat.mul_le_mul hlen hby) (by decide)
 have hnews:∀ j u,row[j]?=some u→w.cell? ((⟨g,0,none⟩:Addr).add j)=some u:=fun j u hu=>by
  have hadd:(⟨g,0,none⟩:Addr).add j=⟨g,j,none⟩:=by
   unfold Addr.add
   split
   ·rename_i hj; rw [hj]
   ·simp
  rw [hadd]
  exact EX hgood hu rfl (by show j=0 + j; omega) rfl
 obtain ⟨v',w',hr,h2,h3,_,h5⟩:=run_append_own_at (P:=P) (w:=w) 0 t o.type T inf z n inf.bytes ht hin hz hsize rfl hzs hsz _ _ _ hP ⟨g,0,none⟩ 1 1 row (by rw [hn,Nat.one_mul]) hnews (fun u hu=>List.all_eq_true.1 h1 u hu) h63 hbytes (Nat.zero_le _)
 have hv:∃ g' c',v'=.slice (some ⟨g',0,none⟩) (l.length + 1) c':=by
  rcases h2.2 with ⟨_,h0⟩ | ⟨g',cap,cur,rfl,_⟩
  ·omega
  ·exact ⟨g',cap,rfl⟩
 obtain ⟨g',c',rfl⟩:=hv
 refine ⟨some ⟨g',0,none⟩,c',w',?_,H.set i hi h3.size ⟨rs++[row],Jw hrel hrs,?_⟩ (fun q hq=>?_) (fun q hq hnf=>h3.block q hq fun he=>hnf (Cj hP he.symm).1),⟨h3.os,h3.tape,h3.output,h3.size,fun q hq=>h3.block q (Nat.lt_of_lt_of_le hq H.base) fun he=>?_⟩⟩
 ·unfold execOp
  simp only [ho,resolve,invoke,builtin,Sem.run_bind,Sem.run_pure,Result.andThen_ok,List.map_toArray,List.map_cons,List.map_nil,hs,hx,hr]
  rw [List.length_append,List.length_singleton]
 ·rw [List.length_append,List.length_singleton,List.flatten_append]
  simpa using h2
 ·have hq':some (⟨g',0,none⟩:Addr)=some ⟨q,0,none⟩:=hq
  obtain rfl:g'=q:=by injection hq' with hq'; injection hq'
  refine ⟨(Hc h2 (g:=g') rfl).2,?_⟩
  rcases h5 with h5 | h5
  ·exact .inl (Cj hP (h5.symm.trans rfl)).1
  ·right
   have:g'=w.heap.size:=Option.some.inj (show some g'=some w.heap.size from h5)
   omega
 ·have:=(H.lo i _ hi q (Cj hP he.symm).1).1
  omega
end
section
variable {P:Program} {ops:Array Oper} {Q:Exit→Act→World→Prop} {md:Region.Mode} {n:Nat} {E:Nat→Value}
theorem fI {listed:Array Bool} {fuel i:Nat} {w w':World} {v:Value} (o:Oper) (hr:Region.ready md ops listed=[i]) (ho:ops[i]?=some o) (hg:o.guard=none)
  (hx:(execOp (BJ n E) o).run P w=.ok (.value v) w') (hk:wpAny P md ops Q fuel (listed.setIfInBounds i true) (Fr n (BO E o.dst v)) w'):wpAny P md ops Q (fuel + 1) listed (Fr n E) w:=by
 refine Kj hr ho hg ?_
 unfold Oper.wp
 rw [DU,hx]
 rw [← Dp] at hk
 exact hk
theorem fJ {listed:Array Bool} {fuel i:Nat} {w w':World} (o:Oper) (hr:Region.ready md ops listed=[i]) (ho:ops[i]?=some o) (hg:o.guard=none)
  (hx:(execOp (BJ n E) o).run P w=.ok .skip w') (hk:wpAny P md ops Q fuel (listed.setIfInBounds i true) (Fr n (BO E o.dst undef)) w'):wpAny P md ops Q (fuel + 1) listed (Fr n E) w:=by
 refine Kj hr ho hg ?_
 unfold Oper.wp
 rw [DU,hx]
 rw [← Dp] at hk
 exact hk
end
section
variable {P:Program} {ops:Array Oper} {Q:Exit→Act→World→Prop} {md:Region.Mode} {n:Nat} {E:Nat→Value}
theorem Ct {listed:Array Bool} {fuel i:Nat} {w:World} {v:Value} (o:Oper) (hQ:∀ c a w,Q (.panic c) (a.put o.dst v) w→Q (.panic c) a w) (hk:wpAny P md ops Q fuel (listed.setIfInBounds i true) (Fr n (BO E o.dst v)) w) (ho:ops[i]?=some o:=by kernel_rfl) (hg:o.guard=none:=by kernel_rfl) (hs:Region.noSelect ops=true:=by kernel_rfl) (hf:Region.free md ops listed i=true:=by kernel_rfl) (hr:(Region.ready md ops listed).contains i=true:=by kernel_rfl) (hv:(DH P (execOp (BJ n E) o) ⟨0,[],(0,0),[]⟩).map (fun p=>(p.1,p.2.eqs))=some (.value v,[]):=by kernel_rfl):wpAny P md ops Q (fuel + 1) listed (Fr n E) w:=by
 refine wpAny_take ho hs hf hr hQ (.inl ⟨?_,fun u=>?_⟩) (by rw [Dp]; exact hk)
 ·unfold Region.wanted
  rw [hg]
 ·rw [DU]
  cases hl:DH P (execOp (BJ n E) o) ⟨0,[],(0,0),[]⟩ with
  | none=>rw [hl] at hv; cases hv
  | some p=>
   obtain ⟨r,m'⟩:=p
   rw [hl] at hv
   simp only [Option.map_some,Option.some.injEq,Prod.mk.injEq] at hv
   obtain ⟨rfl,h2⟩:=hv
   exact GX _ _ _ _ hl (fun e he=>by cases he) (fun q hq=>by rw [h2] at hq; cases hq)
end
abbrev OH:=List (Int×Int×Int)×Option Addr×Nat
abbrev Np (x:OH):List Value:=[.slice x.2.1 x.1.length x.2.2]
abbrev K0 (x:OH):Th:=IJ x.2.1 x.2.2 x.1
abbrev D1 (A:Option Addr) (c:Nat) (xs:List OH):Th:=Th.row 27 1 (fun e r=>r=Np e) A c xs
abbrev DS (xs:List OH):Th:=Th.all (xs.map K0)
theorem AY.addFam {β:Type} {b:Nat} {w:World} {L:List Th} (h:AY b w L) (f:β→Th):AY b w (L++[Th.all (([]:List β).map f)]):=
 h.add _ (fun u hu=>by simp at hu) (fun k ⟨u,hu,_⟩=>by simp at hu)
theorem Wk.addFam {β:Type} {w0 w:World} {M:List BM} {L T:List Th} (K:Wk w0 w M L T) (f:β→Th):Wk w0 w M (L++[Th.all (([]:List β).map f)]) T:=K.join (Below.refl _ _) ((AY.nil (Nat.le_refl _)).addFam f)
end Go.Proofs.YtmcpjkcggfmcmaaGreatDoor

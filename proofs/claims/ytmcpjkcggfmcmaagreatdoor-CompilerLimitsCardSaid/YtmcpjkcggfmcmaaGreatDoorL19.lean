/-
  Part 19 of a proof: contracts of functions.
-/
import Derived.Test.YtmcpjkcggfmcmaaGreatDoorL13
import Derived.Test.YtmcpjkcggfmcmaaGreatDoorL18
import Derived.Test.YtmcpjkcggfmcmaaGreatDoorL06
import Derived.Shelf.Strings.Builder1
import Derived.Test.YtmcpjkcggfmcmaaGreatDoorProg
import Derived.Lib.UnsafeStr
import Derived.Lib.AppendStr
set_option linter.all false
namespace Go.Proofs.YtmcpjkcggfmcmaaGreatDoor
open Go.RowKit
set_option maxRecDepth 100000
section
variable {b:Nat} {w w':World} {L L':List Th}
theorem Rp {n:Nat} {xs:List (List Value)} (hn:∀ r∈xs,r.length=n):∀ (i:Nat) (r:List Value),xs[i]?=some r→∀ (j:Nat) u,r[j]?=some u→xs.flatten[i * n + j]?=some u:=by
 induction xs with
 | nil=>intro i e hi; simp at hi
 | cons x xs ih=>
  intro i r hi j u hu
  have hx:x.length=n:=hn x (by simp)
  cases i with
  | zero=>
   simp at hi
   subst hi
   have hj:j < x.length:=(List.getElem?_eq_some_iff.1 hu).1
   rw [List.flatten_cons,List.getElem?_append_left (by omega),Nat.zero_mul,Nat.zero_add]
   exact hu
  | succ i=>
   have:=ih (fun r hr=>hn r (by simp [hr])) i r (by simpa using hi) j u hu
   rw [List.flatten_cons,List.getElem?_append_right (by rw [hx,Nat.succ_mul]; omega),hx,show (i + 1) * n + j - n=i * n + j by rw [Nat.succ_mul]; omega]
   exact this
theorem Nw {T:TypeId} {n:Nat} {A:Option Addr} {m c:Nat} {rs:List (List Value)} (hm:rs.length=m) (hn:∀ r∈rs,r.length=n) (ho:w.ownsRow 0 T n (.slice A m c) m rs.flatten):CU CG w n A rs:=by
 rcases ho.2 with ⟨h1,h0⟩ | ⟨g,cap,cur,h1,hb,hg,hc,hmm,hs,ht⟩
 ·have:rs=[]:=List.eq_nil_of_length_eq_zero (hm.trans h0)
  subst this
  cases h1
  exact .inl rfl
 ·cases h1
  refine .inr ⟨g,0,rfl,trivial,(Array.getElem?_eq_some_iff.1 hg).1,fun i r hi j u hu=>?_⟩
  have h1:=Rp hn i r hi j u hu
  rw [← ht,List.getElem?_take] at h1
  split at h1
  ·have h2:cur[i * n + j]?=some u:=by rw [← Array.getElem?_toList]; exact h1
   rw [show (0 + i * n + j)=i * n + j by omega]
   simp [World.cell?,hg,h2]
  ·cases h1
theorem AY.rows {α:Type} {T:TypeId} {n:Nat} {rel:α→List Value→Prop} {A:Option Addr} {c:Nat} {l:List α} (hn:∀ e r,rel e r→r.length=n) (h:AY b w L) (i:Nat) (hi:L[i]?=some (Th.row T n rel A c l)):∃ rs,DG rel l rs∧CU CG w n A rs:=by
 obtain ⟨rs,hr,ho⟩:(Th.row T n rel A c l).P w:=h.all i _ hi
 exact ⟨rs,hr,Nw (Gk hr) (IP hn hr) ho⟩
theorem AY.rowsF {α:Type} {T:TypeId} {n:Nat} {f:α→List Value} {A:Option Addr} {c:Nat} {l:List α} (hn:∀ e,(f e).length=n) (h:AY b w L) (i:Nat) (hi:L[i]?=some (Th.row T n (fun e r=>r=f e) A c l)):Dx n f w A l:=by
 obtain ⟨rs,hr,hs⟩:=h.rows (fun e r hr=>hr ▸ hn e) i hi
 rw [JB hr] at hs
 exact hs
end
section
variable {P:Program} {fi:FuncId} {R:Ending→World→Prop}
theorem CF {α:Type} {T:TypeId} {n:Nat} {rel:α→List Value→Prop} {b:Nat} {A:Option Addr} {c:Nat} {l:List α} {L:List Th} {w:World} {k:Nat} {td:List Item} {E:Nat→Value} (H:AY b w L) (i:Nat) (hi:L[i]?=some (Th.row T n rel A c l)) (e:α) (row:List Value) (hrel:rel e row) (g:Nat)
  (hgood:BM.good w ⟨g,0,row,T,true⟩) (o:Oper) (hc:EJ k E td=some o) (s x:Operand) (t:TypeId) (ho:o.op=.call { callee:=.builtin .append,args:=#[s,x],argTypes:=#[t,t] })
  (ht:P.underlying t=some (.slice T)) (hinfo:(P.info? T).map (fun i=>(i.zero.map (·.cells.size),i.size,Nat.ble i.bytes 1024))=some (some n,n,true)) (hsz:0 < n)
  (hs:BJ k E s=.slice A l.length c) (hx:BJ k E x=.slice (some ⟨g,0,none⟩) 1 1) (hn:row.length=n) (h1:row.all (·.oneCell')=true) (hlen:l.length + 1≤100000000000)
  (hk:∀ A' c' w',AY b w' (L.set i (Th.row T n rel A' c' (l++[e])))→Below b w w'→At P fi R (AF td) (Fr k (BO E o.dst (.slice A' (l++[e]).length c'))) w'):At P fi R td (Fr k E) w:=by
 obtain ⟨rs,hrs,hP⟩:(Th.row T n rel A c l).P w:=H.all i _ hi
 obtain ⟨inf,hin,z,hz,hzs,hsize,hby⟩:∃ inf,P.info? T=some inf∧∃ z,inf.zero=some z∧z.cells.size=n∧inf.size=n∧inf.bytes≤1024:=by
  cases hi:P.info? T with
  | none=>rw [hi] at hinfo; cases hinfo
  | some inf=>
   rw [hi] at hinfo
   simp only [Option.map_some,Option.some.injEq,Prod.mk.injEq,Option.map_eq_some_iff] at hinfo
   obtain ⟨⟨z,h1,h2⟩,h3,h4⟩:=hinfo
   exact ⟨inf,rfl,z,h1,h2,h3,Nat.le_of_ble_eq_true h4⟩
 have h63:l.length + 1≤maxLen:=by unfold maxLen; omega
 have hbytes:(l.length + 1) * inf.bytes≤140737488355328:=Nat.le_trans (Nat.mul_le_mul hlen hby) (by decide)
 have hnews:∀ j u,row[j]?=some u→w.cell? ((⟨g,0,none⟩:Addr).add j)=some u:=fun j u hu=>by
  have hadd:(⟨g,0,none⟩:Addr).add j=⟨g,j,none⟩:=by
   unfold Addr.add
   split
   ·rename_i hj; rw [hj]
   ·simp
  rw [hadd]
  exact EX hgood hu rfl (by show j=0 + j; omega) rfl
 obtain ⟨v',w',hr,h2,h3,_,h5⟩:=run_append_own_at (P:=P) (w:=w) 0 t o.type T inf z n inf.bytes ht hin hz hsize rfl hzs hsz _ _ _ hP ⟨g,0,none⟩ 1 1 row (by rw [hn,Nat.one_mul]) hnews (fun u hu=>List.all_eq_true.1 h1 u hu) h63 hbytes (Nat.zero_le _)
 have hv:∃ g' c',v'=.slice (some ⟨g',0,none⟩) (l.length + 1) c':=by
  rcases h2.2 with ⟨_,h0⟩ | ⟨g',cap,cur,rfl,_⟩
  ·omega
  ·exact ⟨g',cap,rfl⟩
 obtain ⟨g',c',rfl⟩:=hv
 have hrow:(Th.row T n rel (some ⟨g',0,none⟩) c' (l++[e])).P w':=⟨rs++[row],Jw hrel hrs,by
  rw [List.length_append,List.length_singleton,List.flatten_append]
  simpa using h2⟩
 have hF:∀ q,(Th.row T n rel (some ⟨g',0,none⟩) c' (l++[e])).F q→q < w'.heap.size∧((Th.row T n rel A c l).F q∨w.heap.size≤q):=fun q (hq:some (⟨g',0,none⟩:Addr)=some ⟨q,0,none⟩)=>by
  obtain rfl:g'=q:=by injection hq with hq; injection hq
  refine ⟨(Hc h2 (g:=g') rfl).2,?_⟩
  rcases h5 with h5 | h5
  ·exact .inl (Cj hP (h5.symm.trans rfl)).1
  ·right
   have:g'=w.heap.size:=Option.some.inj (show some g'=some w.heap.size from h5)
   omega
 have hkeep:∀ q,q < w.heap.size→¬ (Th.row T n rel A c l).F q→w'.heap[q]?=w.heap[q]?:=fun q hq hnf=>h3.block q hq fun he=>hnf (Cj hP he.symm).1
 have H':AY b w' (L.set i (Th.row T n rel (some ⟨g',0,none⟩) c' (l++[e]))):=H.set i hi h3.size hrow hF hkeep
 have hB:Below b w w':=⟨h3.os,h3.tape,h3.output,h3.size,fun q hq=>h3.block q (Nat.lt_of_lt_of_le hq H.base) fun he=>by
  have:=(H.lo i _ hi q (Cj hP he.symm).1).1
  omega⟩
 unfold EJ at hc
 split at hc
 ·rename_i ops i' r k'
  split at hc
  ·rename_i o' ho'
   split at hc
   ·rename_i hw
    obtain rfl:=Option.some.inj hc
    refine EE ho' (by rw [Dv]; exact hw) ?_
    unfold Oper.wp execOp
    rw [DU]
    simp only [ho,resolve,invoke,builtin,Sem.run_bind,Sem.run_pure,Result.andThen_ok,List.map_toArray,List.map_cons,List.map_nil,hs,hx,hr]
    show wpOps P ops _ r ((Fr k E).put o'.dst (.slice (some ⟨g',0,none⟩) (l.length + 1) c')) w'
    rw [Dp]
    have:=hk _ _ w' H' hB
    rw [List.length_append,List.length_singleton] at this
    exact this
   ·cases hc
  ·cases hc
 ·cases hc
end
end Go.Proofs.YtmcpjkcggfmcmaaGreatDoor
namespace Go.Proofs
open Go.Shelf
def Tryz.cc_ren:Go.Shelf.Ren:=⟨fun | 240=>101 | 276=>131 | n=>n,fun | 0=>0 | 3=>3 | 4=>4 | 5=>5 | 9=>9 | 20=>20 | 37=>122 | 70=>121 | 72=>124 | 164=>180 | n=>n,fun | n=>n⟩
theorem Tryz.cc240:Go.Proofs.Lays.n240 Tryz.prog Tryz.cc_ren:={
 mixed:=by kernel_rfl
 f240:=Tryz.func101.trans (congrArg some (by kernel_rfl))
 f276:=Tryz.func131.trans (congrArg some (by kernel_rfl))
 t0:=Tryz.underlying0
 a0:=Tryz.isAgg0
 z0:=Tryz.sizeOf0
 v0:=Tryz.zeroValue0
 t4:=Tryz.underlying4
 a4:=Tryz.isAgg4
 z4:=Tryz.sizeOf4
 v4:=Tryz.zeroValue4
 t9:=Tryz.underlying9
 a9:=Tryz.isAgg9
 z9:=Tryz.sizeOf9
 v9:=Tryz.zeroValue9
 t20:=Tryz.underlying20
 a20:=Tryz.isAgg20
 z20:=Tryz.sizeOf20
 v20:=Tryz.zeroValue20
 t70:=Tryz.underlying121
 a70:=Tryz.isAgg121
 z70:=Tryz.sizeOf121
 v70:=Tryz.zeroValue121
 t72:=Tryz.underlying124
 a72:=Tryz.isAgg124
 z72:=Tryz.sizeOf124
 v72:=Tryz.zeroValue124
 t164:=Tryz.underlying180
 a164:=Tryz.isAgg180
 z164:=Tryz.sizeOf180
 v164:=Tryz.zeroValue180 }
theorem Tryz.ccX:Builder.X72 Tryz.prog Tryz.cc_ren:={
 sizeBuilder:=by kernel_rfl
 liesBuilder:=by kernel_rfl }
open Go.RowKit in
theorem Tryz.copyCheck_used (b:Nat) (w:World) (h:w.cell? ⟨b,0,none⟩=some (.pointer (some ⟨b,0,none⟩))):Calls Tryz.prog 101 #[.pointer (some ⟨b,0,none⟩)] w fun e w'=>e=.returned (.tuple #[])∧w'=w:=Any.Builder_copyCheck_used Tryz.cc240 Tryz.ccX b w h
open Go.RowKit in
theorem Tryz.copyCheck_fresh (b:Nat) (w:World) (h0:w.cell? ⟨b,0,none⟩=some (.pointer none)) (hsh:w.shape? b=some (124,2)) (hfz:w.frozen? ⟨b,0,none⟩=false):Calls Tryz.prog 101 #[.pointer (some ⟨b,0,none⟩)] w fun e w'=>e=.returned (.tuple #[])∧w'=w.setCell ⟨b,0,none⟩ (.pointer (some ⟨b,0,none⟩)):=Any.Builder_copyCheck_fresh Tryz.cc240 Tryz.ccX b w h0 hsh hfz
end Go.Proofs
namespace Go.Proofs
open Go.Shelf Go.RowKit
set_option maxHeartbeats 1000000 in
set_option maxRecDepth 100000 in
theorem Tryz.bstring_any (b g m:Nat) (l:List UInt8) (w:World) (hc:w.cell? ⟨b,1,none⟩=some (.slice (some ⟨g,0,none⟩) l.length m)) (h0:l≠[]) (hm:l.length≤m) (hb:∀ (j:Nat) x,l[j]?=some x→w.cell? ⟨g,j,none⟩=some (.int .u8 (x.toNat:Int))) (hs:∃ sz,w.shape? g=some (5,sz)∧l.length≤sz) (h63:l.length≤9223372036854775807) :
  Calls Tryz.prog 65 #[.pointer (some ⟨b,0,none⟩)] w fun e w'=>e=.returned (.string ⟨⟨l⟩⟩)∧w'=w.drew.freeze ⟨g,0,none⟩ l.length:=by
 have mixed:Tryz.prog.follows .mixedOrders=true:=by kernel_rfl
 have hl0:l.length≠0:=by simpa using h0
 obtain ⟨sz,hs1,hs2⟩:=hs
 have c1:w.drew.cell? ⟨b,1,none⟩=some (.slice (some ⟨g,0,none⟩) l.length m):=hc
 have hSD:(Builtin.unsafeSliceData_ #[122] 158 #[.slice (some ⟨g,0,none⟩) l.length m]).run Tryz.prog w.drew=.ok (.pointer (some ⟨g,0,none⟩)) w.drew:=
  Lib.run_unsafeSliceData_row _ _ _ _ _ _ (by omega)
 have hUS:(Builtin.unsafeString_ #[158,3] 9 #[.pointer (some ⟨g,0,none⟩),.int .i64 l.length]).run Tryz.prog w.drew=.ok (.string ⟨l.toArray⟩) (w.drew.freeze ⟨g,0,none⟩ l.length):=by
  refine Lib.run_unsafeString_row w.drew 158 3 9 5 Tryz.underlying158 (by kernel_rfl) g sz hs1 l h0 hs2 h63 ?_
  intro j x hx
  have:=hb j x hx
  cases j with
  | zero=>exact this
  | succ j=>show w.cell? ⟨g,0 + (j + 1),none⟩=_; rw [Nat.zero_add]; exact this
 go_enter Tryz.func65,Tryz.ntmps65
 go_wp2
 go_region_o
 all_goals (go_wp2; go_ret; exact ⟨rfl,rfl⟩)
end Go.Proofs
namespace Go.Proofs.YtmcpjkcggfmcmaaGreatDoor
open Go.RowKit
set_option maxRecDepth 100000
def SY (e:UInt8):List Value:=[.int .u8 (e.toNat:Int)]
def FC (A:Option Addr) (c:Nat) (l:List UInt8):Th:=Th.row 5 1 (fun e r=>r=SY e) A c l
theorem VP {l:List UInt8} {rs:List (List Value)} (h:DG (fun e r=>r=SY e) l rs):rs.flatten=Lib.strCells ⟨⟨l⟩⟩:=by
 induction l generalizing rs with
 | nil=>cases rs with
  | nil=>rfl
  | cons r rs=>exact absurd h (by simp [DG])
 | cons x l ih=>cases rs with
  | nil=>exact absurd h (by simp [DG])
  | cons r rs=>
   obtain ⟨h1,h2⟩:=h
   subst h1
   rw [List.flatten_cons,ih h2]
   rfl
theorem QS (l:List UInt8):DG (fun e r=>r=SY e) l (l.map SY):=by
 induction l with
 | nil=>exact trivial
 | cons x l ih=>exact ⟨rfl,ih⟩
section
variable {P:Program} {w:World}
theorem Ob (t u ty e:TypeId) (i:TypeInfo) (ht:P.underlying t=some (.slice e)) (hu:P.underlying u=some .string) (hi:P.info? e=some i) (hz:i.zero=some (.int .u8 0)) (hsize:i.size=1) (hby:i.bytes=1)
  (A:Option Addr) (c n:Nat) (xs:List Value) (hown:w.ownsRow 0 e 1 (.slice A n c) n xs) (s:ByteArray) (hs:0 < s.size) (hlim:n + s.size≤1000000) :
  ∃ g' c' w',(Builtin.append_ #[t,u] ty #[.slice A n c,.string s]).run P w=.ok (.slice (some ⟨g',0,none⟩) (n + s.size) c') w'∧w'.ownsRow 0 e 1 (.slice (some ⟨g',0,none⟩) (n + s.size) c') (n + s.size) (xs++Lib.strCells s)∧w.grownBy w' (Value.slice A n c).ownBlock∧(A=some ⟨g',0,none⟩∨g'=w.heap.size):=by
 obtain ⟨v',w',hr,h2,h3,_⟩:=Lib.run_append_own_string (P:=P) w 0 t u ty e i ht hu hi hz hsize hby _ n xs hown s (by simp only [maxLen]; omega) (by omega) (Nat.zero_le _)
 have key:∃ g' c',v'=.slice (some ⟨g',0,none⟩) (n + s.size) c'∧(A=some ⟨g',0,none⟩∨g'=w.heap.size):=by
  have hxl:xs.length=n:=by simpa using hown.1
  rcases hown.2 with ⟨h1,h0⟩ | ⟨g,cp,cur,h1,hbg,hg,hnc,hcm,hcs,htake⟩
  ·cases h1
   have hq:=run_append_nil_string (P:=P) w t u ty e i (.int .u8 0) ht hu hi hz s hs (by omega) (by rw [hby]; omega)
   rw [hr] at hq
   injection hq with hv _
   exact ⟨w.heap.size,grownCap w s.size 0 e,by rw [hv,Nat.zero_add],.inr rfl⟩
  ·injection h1 with hA hn hc
   subst hA; subst hc
   by_cases hroom:n + s.size≤c
   ·have hq:=Lib.run_append_room_string (P:=P) w t u ty e i ht hu hi hsize g n c cur hg s hroom (by omega)
    rw [hr] at hq
    injection hq with hv _
    exact ⟨g,_,hv,.inl rfl⟩
   ·have hq:=Lib.run_append_grow_string (P:=P) w t u ty e i (.int .u8 0) ht hu hi hz ⟨g,0,none⟩ n c xs (by rw [hsize]; simpa using hxl) (hown.cells (g:=g) rfl) s (by omega) (by omega) (by rw [hby]; exact growslice_fits (by omega) (by omega))
    rw [hr] at hq
    injection hq with hv _
    exact ⟨w.heap.size,_,hv,.inr rfl⟩
 obtain ⟨g',c',rfl,hA⟩:=key
 exact ⟨g',c',w',hr,h2,h3,hA⟩
variable {fi:FuncId} {R:Ending→World→Prop}
theorem bC {b:Nat} {A:Option Addr} {c:Nat} {l:List UInt8} {L:List Th} {k:Nat} {td:List Item} {E:Nat→Value} (H:AY b w L) (i:Nat) (hi:L[i]?=some (FC A c l)) (str:List UInt8) (hne:str≠[])
  (o:Oper) (hc:EJ k E td=some o) (s x:Operand) (t u:TypeId) (ho:o.op=.call { callee:=.builtin .append,args:=#[s,x],argTypes:=#[t,u] })
  (ht:P.underlying t=some (.slice 5)) (hu:P.underlying u=some .string) (hinfo:(P.info? 5).map (fun i=>(i.zero,i.size,i.bytes))=some (some (.int .u8 0),1,1))
  (hs:BJ k E s=.slice A l.length c) (hx:BJ k E x=.string ⟨⟨str⟩⟩) (hlen:l.length + str.length≤1000000)
  (hk:∀ A' c' w',AY b w' (L.set i (FC A' c' (l++str)))→Below b w w'→At P fi R (AF td) (Fr k (BO E o.dst (.slice A' (l++str).length c'))) w'):At P fi R td (Fr k E) w:=by
 obtain ⟨rs,hrs,hP⟩:(FC A c l).P w:=H.all i _ hi
 obtain ⟨inf,hin,hz,hsize,hby⟩:∃ inf,P.info? 5=some inf∧inf.zero=some (.int .u8 0)∧inf.size=1∧inf.bytes=1:=by
  cases hi:P.info? 5 with
  | none=>rw [hi] at hinfo; cases hinfo
  | some inf=>
   rw [hi] at hinfo
   simp only [Option.map_some,Option.some.injEq,Prod.mk.injEq] at hinfo
   exact ⟨inf,rfl,hinfo⟩
 have hsz:(⟨⟨str⟩⟩:ByteArray).size=str.length:=rfl
 obtain ⟨g',c',w',hr,h2,h3,h5⟩:=Ob (P:=P) (w:=w) t u o.type _ inf ht hu hin hz hsize hby A c l.length _ hP ⟨⟨str⟩⟩ (by rw [hsz]; exact List.length_pos_iff.2 hne) (by rw [hsz]; exact hlen)
 rw [hsz] at hr h2
 have hrow:(FC (some ⟨g',0,none⟩) c' (l++str)).P w':=⟨(l++str).map SY,QS _,by
  rw [List.length_append,VP (QS _),show Lib.strCells ⟨⟨l++str⟩⟩=Lib.strCells ⟨⟨l⟩⟩++Lib.strCells ⟨⟨str⟩⟩ by simp [Lib.strCells],← VP hrs]
  exact h2⟩
 have hF:∀ q,(FC (some ⟨g',0,none⟩) c' (l++str)).F q→q < w'.heap.size∧((FC A c l).F q∨w.heap.size≤q):=fun q (hq:some (⟨g',0,none⟩:Addr)=some ⟨q,0,none⟩)=>by
  obtain rfl:g'=q:=by injection hq with hq; injection hq
  refine ⟨(Hc h2 (g:=g') rfl).2,?_⟩
  rcases h5 with h5 | h5
  ·exact .inl h5
  ·right
   omega
 have hkeep:∀ q,q < w.heap.size→¬ (FC A c l).F q→w'.heap[q]?=w.heap[q]?:=fun q hq hnf=>h3.block q hq fun he=>hnf (Cj hP he.symm).1
 have H':AY b w' (L.set i (FC (some ⟨g',0,none⟩) c' (l++str))):=H.set i hi h3.size hrow hF hkeep
 have hB:Below b w w':=⟨h3.os,h3.tape,h3.output,h3.size,fun q hq=>h3.block q (Nat.lt_of_lt_of_le hq H.base) fun he=>by
  have:=(H.lo i _ hi q (Cj hP he.symm).1).1
  omega⟩
 unfold EJ at hc
 split at hc
 ·rename_i ops i' r k'
  split at hc
  ·rename_i o' ho'
   split at hc
   ·rename_i hw
    obtain rfl:=Option.some.inj hc
    refine EE ho' (by rw [Dv]; exact hw) ?_
    unfold Oper.wp execOp
    rw [DU]
    simp only [ho,resolve,invoke,builtin,Sem.run_bind,Sem.run_pure,Result.andThen_ok,List.map_toArray,List.map_cons,List.map_nil,hs,hx,hr]
    show wpOps P ops _ r ((Fr k E).put o'.dst (.slice (some ⟨g',0,none⟩) (l.length + str.length) c')) w'
    rw [Dp]
    have:=hk _ _ w' H' hB
    rw [List.length_append] at this
    exact this
   ·cases hc
  ·cases hc
 ·cases hc
end
end Go.Proofs.YtmcpjkcggfmcmaaGreatDoor
namespace Go.Proofs.YtmcpjkcggfmcmaaGreatDoor
open Go.RowKit
set_option maxRecDepth 100000
abbrev Eb (n:Nat):List Value:=[.int .i64 (n:Int)]
abbrev eL (p:Int×Int):List Value:=[.int .i64 p.1,.int .i64 p.2]
abbrev rowsNat:=Dx 1 Eb
abbrev BE (A:Option Addr) (c:Nat) (l:List Nat):Th:=Th.row 3 1 (fun e r=>r=Eb e) A c l
abbrev Bg (A:Option Addr) (c:Nat) (l:List (List UInt8)):Th:=Th.row 9 1 (fun e r=>r=Fw e) A c l
abbrev Gh (A:Option Addr) (c:Nat) (l:List (Int×Int)):Th:=Th.row 70 2 (fun e r=>r=eL e) A c l
abbrev ER (w:World) (A:Option Addr) (c:Nat) (l:List Ex):Th:=Th.row 32 10 (De CG w) A c l
abbrev CY (w:World) (A:Option Addr) (c:Nat) (l:List Df):Th:=Th.row 34 21 (FN CG w) A c l
theorem QP {w:World}:∀ {l:List Ex} {rs:List (List Value)},DG (De CG w) l rs→Dc CG w l rs
 | [],[],_=>by unfold Dc; rfl
 | [],_ :: _,h=>h.elim
 | _ :: _,[],h=>h.elim
 | _ :: _,_ :: _,h=>by unfold Dc; exact ⟨_,_,rfl,h.1,QP h.2⟩
theorem QQ {w:World}:∀ {l:List Df} {rs:List (List Value)},DG (FN CG w) l rs→EI CG w l rs
 | [],[],_=>by unfold EI; rfl
 | [],_ :: _,h=>h.elim
 | _ :: _,[],h=>h.elim
 | _ :: _,_ :: _,h=>by unfold EI; exact ⟨_,_,rfl,h.1,QQ h.2⟩
theorem Iy {w:World} {e:Ex} {A:Option Addr} {c:Nat} (h:rowsEx w A e.ks):De CG w e (Bo e A c):=by
 obtain ⟨ks,h1,h2⟩:=h
 cases e with
 | mk a1 a2 a3 a4 a5 a6 a7 a8 a9 kids=>
  unfold De
  exact ⟨A,c,ks,rfl,h1,h2⟩
theorem SG {w:World} {e:Ex} {r:List Value} (h:De CG w e r):r.length=10:=by
 cases e with
 | mk a1 a2 a3 a4 a5 a6 a7 a8 a9 kids=>
  unfold De at h
  obtain ⟨A,c,ks,rfl,_⟩:=h
  rfl
theorem Xc {w:World} {e:Ex} {r:List Value} (h:De CG w e r):∃ A c,r=Bo e A c∧rowsEx w A e.ks:=by
 cases e with
 | mk a1 a2 a3 a4 a5 a6 a7 a8 a9 kids=>
  unfold De at h
  obtain ⟨A,c,ks,rfl,h1,h2⟩:=h
  exact ⟨A,c,rfl,ks,h1,h2⟩
theorem F4 {w:World} {d:Df} {A1:Option Addr} {c1:Nat} {A2:Option Addr} {c2:Nat} (h1:C1 w A1 d.ents) (h2:rowsEx w A2 d.body.ks):FN CG w d (Be d A1 c1 A2 c2):=
 ⟨A1,c1,Bo d.body A2 c2,Iy h2,h1,rfl⟩
theorem NO {α:Type} {rel:α→List Value→Prop}:∀ {l:List α} {rs:List (List Value)} {i:Nat} {e:α},DG rel l rs→l[i]?=some e→∃ r,rs[i]?=some r∧rel e r
 | [],_,_,_,_,hi=>by simp at hi
 | _ :: _,[],_,_,h,_=>h.elim
 | _ :: _,r :: _,0,_,h,hi=>by simp at hi; subst hi; exact ⟨r,rfl,h.1⟩
 | _ :: _,_ :: _,i + 1,_,h,hi=>by simpa using NO h.2 (by simpa using hi)
section
variable {b:Nat} {w w0:World} {L:List Th} {A:Option Addr} {c:Nat}
theorem AY.rowAt {α:Type} {T:TypeId} {n:Nat} {rel:α→List Value→Prop} {l:List α} (h:AY b w L) (i:Nat) (hi:L[i]?=some (Th.row T n rel A c l)) (hne:0 < l.length):∃ g,A=some ⟨g,0,none⟩∧g < w.heap.size:=by
 obtain ⟨rs,hr,ho⟩:(Th.row T n rel A c l).P w:=h.all i _ hi
 rcases ho.2 with ⟨h1,h0⟩ | ⟨g,cap,cur,h1,_,hg,_⟩
 ·omega
 ·cases h1
  exact ⟨g,rfl,Cy hg⟩
theorem AY.rowsNat {l:List Nat} (h:AY b w L) (i:Nat) (hi:L[i]?=some (BE A c l)):rowsNat w A l:=h.rowsF (fun _=>rfl) i hi
theorem AY.rowsStr {l:List (List UInt8)} (h:AY b w L) (i:Nat) (hi:L[i]?=some (Bg A c l)):rowsStr w A l:=h.rowsF (fun _=>rfl) i hi
theorem AY.rowsEx {l:List Ex} (h:AY b w L) (B:Below w0.heap.size w0 w) (i:Nat) (hi:L[i]?=some (ER w0 A c l)):rowsEx w A l:=by
 obtain ⟨rs,h1,h2⟩:=h.rows (fun _ _=>SG) i hi
 exact ⟨rs,(QP h1).below B,h2⟩
theorem AY.rowsDf {l:List Df} (h:AY b w L) (B:Below w0.heap.size w0 w) (i:Nat) (hi:L[i]?=some (CY w0 A c l)):rowsDf w A l:=by
 obtain ⟨rs,h1,h2⟩:=h.rows (fun _ _ hd=>hd.len) i hi
 exact ⟨rs,(QQ h1).below B,h2⟩
theorem AY.cells {α:Type} {T:TypeId} {n:Nat} {rel:α→List Value→Prop} {g off:Nat} {l:List α} (hn:∀ e r,rel e r→r.length=n) (h:AY b w L) (i:Nat) (hi:L[i]?=some (Th.row T n rel (some ⟨g,off,none⟩) c l)) {k:Nat} {e:α} (he:l[k]?=some e):∃ r,rel e r∧w.rangeAt g (off + k * n) r:=by
 obtain ⟨rs,h1,h2⟩:=h.rows hn i hi
 obtain ⟨r,hr,hre⟩:=NO h1 he
 obtain ⟨g',off',hA,_,hc⟩:=I9 h2 hr
 obtain ⟨rfl,rfl⟩:g=g'∧off=off':=by
  simp only [Option.some.injEq,Addr.mk.injEq] at hA
  exact ⟨hA.1,hA.2.1⟩
 exact ⟨r,hre,hc⟩
theorem AY.cellsF {α:Type} {T:TypeId} {n:Nat} {f:α→List Value} {g off:Nat} {l:List α} (hn:∀ e,(f e).length=n) (h:AY b w L) (i:Nat) (hi:L[i]?=some (Th.row T n (fun e r=>r=f e) (some ⟨g,off,none⟩) c l)) {k:Nat} {e:α} (he:l[k]?=some e):w.rangeAt g (off + k * n) (f e):=by
 obtain ⟨r,h1,h2⟩:=h.cells (fun e r hr=>hr ▸ hn e) i hi he
 exact h1 ▸ h2
end
section
variable {b:Nat} {w w':World} {X Y X' Y' Z L:List Th}
end
def BK:Op→Bool
 | .call ⟨.builtin .append,_,_⟩=>true
 | _=>false
end Go.Proofs.YtmcpjkcggfmcmaaGreatDoor
namespace Go.Proofs.YtmcpjkcggfmcmaaGreatDoor
noncomputable section
open Go.RowKit
set_option maxRecDepth 100000
attribute [local irreducible] BD Bb AF AG AL A4 Ai AO BO CV Di CC Bp At Fr
def FU (b:Nat) (q:Option Addr) (A:Option Addr) (n c:Nat):BM:=⟨b,0,[.pointer q,.slice A n c],124,true⟩
theorem OT {b0 b:Nat} {q A:Option Addr} {n c:Nat} {L:List Th} {w:World} (H:AY b0 w (Th.ent (FU b q A n c) :: L)) (hq:q=none∨q=some ⟨b,0,none⟩) :
  Calls Tryz.prog 101 ([.pointer (some ⟨b,0,none⟩)]:List Value).toArray w fun e w'=>e=.returned (.tuple #[])∧Below b0 w w'∧AY b0 w' (Th.ent (FU b (some ⟨b,0,none⟩) A n c) :: L):=by
 have hg:(FU b q A n c).good w:=H.all 0 _ rfl
 have hb:b0≤b∧b < w.heap.size:=H.lo 0 _ rfl b rfl
 have hh:w.heap[b]?=some (.cells #[.pointer q,.slice A n c] 124 (0,0)):=hg.2.1
 rcases hq with rfl | rfl
 ·refine (Tryz.copyCheck_fresh b w (by simp [World.cell?,hh]) (by simp [World.shape?,hh]) (by simp [World.frozen?,hh])).mono fun e w' h=>?_
  obtain ⟨rfl,rfl⟩:=h
  have h1:(w.setCell ⟨b,0,none⟩ (.pointer (some ⟨b,0,none⟩))).heap[b]?=some (.cells #[.pointer (some ⟨b,0,none⟩),.slice A n c] 124 (0,0)):=by
   simp [World.setCell,Array.getElem?_modify,hh]
  have h2:∀ k,k≠b→(w.setCell ⟨b,0,none⟩ (.pointer (some ⟨b,0,none⟩))).heap[k]?=w.heap[k]?:=fun k hk=>by
   simp [World.setCell,Array.getElem?_modify,Ne.symm hk]
  have h3:(w.setCell ⟨b,0,none⟩ (.pointer (some ⟨b,0,none⟩))).heap.size=w.heap.size:=by simp [World.setCell]
  refine ⟨rfl,⟨rfl,rfl,rfl,by rw [h3]; exact Nat.le_refl _,fun k hk=>h2 k (by omega)⟩,?_⟩
  exact H.set 0 rfl (by rw [h3]; exact Nat.le_refl _) (t:=Th.ent (FU b (some ⟨b,0,none⟩) A n c)) ⟨by rw [h3]; exact hb.2,h1,rfl⟩ (fun k hk=>⟨by rw [h3,show k=b from hk]; exact hb.2,.inl hk⟩) fun k _ hk=>h2 k hk
 ·refine (Tryz.copyCheck_used b w (by simp [World.cell?,hh])).mono fun e w' h=>?_
  obtain ⟨rfl,rfl⟩:=h
  exact ⟨rfl,Below.refl _ _,H⟩
noncomputable def Xj:Code:=Tryz.f62.body.getD .skip
def Yw:List Item:=AB 60 ([.code Xj])
def Yv:List Item:=AB (As BK 90 (AF Yw)) (AF Yw)
def m9:List Item:=AB 60 (AF Yv)
theorem Nl {b:Nat} {q A:Option Addr} {c:Nat} {bs:List UInt8} {L:List Th} {w we:World} (B:Below w.heap.size w we) (H:AY w.heap.size we ([Th.ent (FU b q A bs.length c),FC A c bs]++L)) (hq:q=none∨q=some ⟨b,0,none⟩) (s:List UInt8) (hs:s≠[]) (hl:bs.length + s.length≤1000000) :
  Calls Tryz.prog 62 ([.pointer (some ⟨b,0,none⟩),.string ⟨⟨s⟩⟩]:List Value).toArray we fun e w'=>∃ A' c',e=.returned (.tuple #[.int .i64 s.length,.nilIface])∧Below w.heap.size w w'∧AY w.heap.size w' ([Th.ent (FU b (some ⟨b,0,none⟩) A' (bs++s).length c'),FC A' c' (bs++s)]++L):=by
 refine Ab (args:=[.pointer (some ⟨b,0,none⟩),.string ⟨⟨s⟩⟩]) (fn:=Tryz.f62) (c:=Xj) (n:=19) ?_
 have K1:Wk w we [] [Th.ent (FU b q A bs.length c),FC A c bs] L:=⟨B,H⟩
 refine AC Yw K1 [] fun w1 K2=>?_
 refine BX (OT K2.H hq) fun e w2 hh=>?_
 obtain ⟨rfl,b2,H2⟩:=hh
 refine ⟨_,rfl,?_⟩
 have K3:Wk w w2 [FU b (some ⟨b,0,none⟩) A bs.length c] [FC A c bs] L:=⟨K2.B.trans b2,H2⟩
 refine BA BK Yv K3 [(0,1)] fun w3 K4=>?_
 refine bC K4.H (K4.ix 0) (K4.at 0 rfl) s hs (Ck Yv) (by kernel_rfl) (.tmp 12) (.tmp 13) 122 9 (by kernel_rfl) Tryz.underlying122 Tryz.underlying9 (by kernel_rfl) (by kernel_rfl) (by kernel_rfl) hl fun A' c' w4 H4 b4=>?_
 have K5:=K4.put 0 (by simp) b4 H4
 refine Bv m9 [FU b (some ⟨b,0,none⟩) A' (bs++s).length c'] K5 [(0,1)] fun w5 K6=>?_
 exact Aa K6 (0,0) (.tuple #[.int .i64 s.length,.nilIface]) ⟨A',c',rfl,K6.B,K6.H⟩
theorem kD (w:World) (g n:Nat):(∀ k,k≠g→(w.drew.freeze ⟨g,0,none⟩ n).heap[k]?=w.heap[k]?)∧(w.drew.freeze ⟨g,0,none⟩ n).heap.size=w.heap.size∧(w.drew.freeze ⟨g,0,none⟩ n).os=w.os∧(w.drew.freeze ⟨g,0,none⟩ n).tape=w.tape∧(w.drew.freeze ⟨g,0,none⟩ n).output=w.output:=by
 unfold World.freeze
 split
 ·exact ⟨fun _ _=>rfl,rfl,rfl,rfl,rfl⟩
 ·refine ⟨fun k hk=>?_,?_,rfl,rfl,rfl⟩
  ·show (w.heap.modify g _)[k]?=_
   rw [Array.getElem?_modify,if_neg (Ne.symm hk)]
  ·show (w.heap.modify g _).size=_
   simp
theorem VI {b0 b:Nat} {q A:Option Addr} {c:Nat} {bs:List UInt8} {L:List Th} {w:World} (H:AY b0 w (Th.ent (FU b q A bs.length c) :: FC A c bs :: L)) (hne:bs≠[]) (hl:bs.length≤1000000) :
  Calls Tryz.prog 65 ([.pointer (some ⟨b,0,none⟩)]:List Value).toArray w fun e w'=>e=.returned (.string ⟨⟨bs⟩⟩)∧Below b0 w w':=by
 have hg:(FU b q A bs.length c).good w:=H.all 0 _ rfl
 have hh:w.heap[b]?=some (.cells #[.pointer q,.slice A bs.length c] 124 (0,0)):=hg.2.1
 obtain ⟨rs,hrs,hP⟩:(FC A c bs).P w:=H.all 1 _ rfl
 rcases hP.2 with ⟨_,h0⟩ | ⟨g,cap,cur,h1,hbg,hgh,hnc,hcm,hcs,htake⟩
 ·exact absurd (List.eq_nil_of_length_eq_zero h0) hne
 ·injection h1 with hA _ hc
  subst hA; subst hc
  have hlo:=(H.lo 1 _ rfl g rfl).1
  have hfl:=VP hrs
  refine (Tryz.bstring_any b g c bs w (by simp [World.cell?,hh]) hne hnc (fun j x hj=>?_) ⟨cur.size,by simp [World.shape?,hgh],by omega⟩ (by omega)).mono fun e w' hh=>?_
  ·have hjl:j < bs.length:=(List.getElem?_eq_some_iff.1 hj).1
   have h2:(cur.toList.take (bs.length * 1))[j]?=some (.int .u8 (x.toNat:Int)):=by
    rw [htake,hfl]
    simp [Lib.strCells,hj]
   rw [List.getElem?_take,if_pos (by omega)] at h2
   simpa [World.cell?,hgh] using h2
  ·obtain ⟨rfl,rfl⟩:=hh
   obtain ⟨f1,f2,f3,f4,f5⟩:=kD w g bs.length
   exact ⟨rfl,⟨f3,f4,f5,by rw [f2]; exact Nat.le_refl _,fun k hk=>f1 k (by omega)⟩⟩
end
end Go.Proofs.YtmcpjkcggfmcmaaGreatDoor

/-
  Part 27 of a proof: contracts of functions.
-/
import Derived.Test.YtmcpjkcggfmcmaaGreatDoorD26
set_option linter.all false
namespace Go.Proofs.YtmcpjkcggfmcmaaGreatDoor
noncomputable section
open Go.RowKit
set_option maxRecDepth 100000
set_option maxHeartbeats 1000000
attribute [local irreducible] BO CB AE AG AL Ay Aj AP Bc Cq Eb CT CO At Fr
def CP (m:List (List UInt8×Int)) (p1:List UInt8) (p2:Int):List (List UInt8×Int):=cond (!((CA m p1).isSome)) ((p1,p2) :: m) (m)
noncomputable def Ui:Code:=Tryz.f21.body.getD .skip
def oq:=AB (BA FJ 90 ([.code Ui])) ([.code Ui])
def W7:=AB 60 (AE oq)
def fF:=AB (BA PZ 90 (AG W7)) (AG W7)
def vP:=AB 60 (AE fF)
def vO:=AB 60 (AL W7)
theorem Id (L:List Th) (a:Nat) (m:List (List UInt8×Int)) (p1:List UInt8) (d:Int) (w g:World) (f:p1.length≤4294967296) (j:-9223372036854775808≤d∧d≤9223372036854775807) (r:m.length≤4294967296) (B:Below w.heap.size w g) (H:AU w.heap.size g ([(AY.th BL a m)]++L)):Calls Tryz.prog 21 ([.map (some a),.string ⟨⟨p1⟩⟩,D d]:List Value).toArray g fun e w'=>e=.returned (.tuple #[])∧Below w.heap.size w w'∧AU w.heap.size w' ([(AY.th BL a (CP m p1 d))]++L):=by
 refine Af (fn:=Tryz.f21) (c:=Ui) (n:=19) ?_
 have v:Wk w g [] [(AY.th BL a m)] L:=⟨B,H⟩
 clear B H
 refine BG FJ oq v [] fun w1 i=>?_
 refine IA (Pq BL (t:=73) (x:=.tmp 9) (y:=.tmp 10) (by kernel_rfl) rfl (b:=a) (m:=m) (by kernel_rfl) p1 (by kernel_rfl) f (i.H.all (i.ix 0) _ (i.at 0 rfl))) ?_
 refine AC W7 i [] fun w2 q=>?_
 refine AM (!((CA m p1).isSome)) (fun l=>?_) (fun l=>?_)
 ·refine BG PZ fF q [] fun w4 h=>?_
  refine RM BL h.H (h.ix 0) (h.at 0 rfl) p1 d f j (DM fF) (by kernel_rfl) (t:=73) (x:=.tmp 16) (y:=.tmp 17) (z:=.tmp 18) (by kernel_rfl) rfl (by kernel_rfl) (by kernel_rfl) (by kernel_rfl) (by ((try simp only [maxLen,List.length_append,List.length_cons,List.length_nil,List.length_singleton]) <;> omega)) fun w5 Hn s=>?_
  have u:=h.put 0 (by simp) s Hn
  refine AC vP u [] fun w6 p=>?_
  have k:(CP m p1 d)=(p1,d) :: m:=by unfold CP; rw [l] <;> rfl
  exact Ab p (0,0) (.tuple #[]) ⟨rfl,p.B,by rw [k]; exact p.own [0] rfl (by decide)⟩
 ·refine AC vO q [] fun w7 o=>?_
  have k:(CP m p1 d)=m:=by unfold CP; rw [l] <;> rfl
  exact Ab o (0,0) (.tuple #[]) ⟨rfl,o.B,by rw [k]; exact o.own [0] rfl (by decide)⟩
theorem Tt (m:List (List UInt8×Int)) (s:List UInt8) (n:Int):(CP m s n).length≤m.length + 1:=by
 unfold CP
 cases !(CA m s).isSome <;> simp
end
end Go.Proofs.YtmcpjkcggfmcmaaGreatDoor
namespace Go.Proofs.YtmcpjkcggfmcmaaGreatDoor
open Go.RowKit
set_option maxRecDepth 100000
set_option maxHeartbeats 600000
theorem Tz {α:Type} {a:α→List Value→Prop}:∀ {l c:List α} {rs b:List (List Value)},Dm a l rs→Dm a c b→Dm a (l++c) (rs++b)
 | [],_,[],_,_,h=>h
 | [],_,_ :: _,_,h,_=>h.elim
 | _ :: _,_,[],_,h,_=>h.elim
 | _ :: _,_,_ :: _,_,k,h=>⟨k.1,Tz k.2 h⟩
theorem Nn {α:Type} {f:α→List Value}:∀ (l:List α),Dm (fun e r=>r=f e) l (l.map f)
 | []=>trivial
 | _ :: l=>⟨rfl,Nn l⟩
abbrev KR (A:Option Addr) (c:Nat) (l:List (Int×Int×Int)):Th:=Th.row 97 3 (fun e r=>r=Ua e) A c l
theorem AU.entRow {α:Type} {b:Nat} {w:World} {L:List Th} (h:AU b w L) (i:Nat) {g:Nat} {T:TypeId} {n:Nat} (a:α→List Value→Prop) (hi:L[i]?=some (Th.ent ⟨g,0,[],T,true⟩)):AU b w (L.set i (Th.row T n a (some ⟨g,0,none⟩) 0 [])):=by
 have hg:BI.good w ⟨g,0,[],T,true⟩:=h.all i _ hi
 refine h.set i hi (Nat.le_refl _) ⟨[],trivial,by simp,.inr ⟨g,0,#[],rfl,Nat.zero_le _,?_,Nat.le_refl _,Nat.zero_le _,by simp,by simp⟩⟩ (fun k c=>?_) (fun _ _ _=>rfl)
 ·have:=hg.2
  rw [if_pos rfl] at this
  exact this.1
 ·obtain rfl:g=k:=by have:=Option.some.inj c; injection this
  exact ⟨hg.1,.inl rfl⟩
section
variable {P:Program} {fi:FuncId} {R:Ending→World→Prop}
theorem mv {α:Type} {T:TypeId} {n:Nat} {e:α→List Value→Prop} {b:Nat} {A:Option Addr} {c:Nat} {l:List α} {L:List Th} {w:World} {k:Nat} {td:List Item} {E:Nat→Value} (H:AU b w L) (i:Nat) (hi:L[i]?=some (Th.row T n e A c l)) (es:List α) (rows:List (List Value)) (v:Dm e es rows) (ad:Addr) (cx:Nat)
  (b0:∀ j u,rows.flatten[j]?=some u→w.cell? (ad.add j)=some u) (o:Oper) (hc:FY k E td=some o) (s x:Operand) (t:TypeId) (ho:o.op=.call { callee:=.builtin .append,args:=#[s,x],argTypes:=#[t,t] })
  (ht:P.underlying t=some (.slice T)) (a:(P.info? T).map (fun i=>(i.zero.map (·.cells.size),i.size,Nat.ble i.bytes 1024))=some (some n,n,true)) (i0:0 < n)
  (hs:BN k E s=.slice A l.length c) (hx:BN k E x=.slice (some ad) es.length cx) (hn:∀ r∈rows,r.length=n) (h1:∀ r∈rows,r.all (·.oneCell')=true) (e0:l.length + es.length≤100000000000)
  (hk:∀ g m w',AU b w' (L.set i (Th.row T n e g m (l++es)))→Below b w w'→At P fi R (AE td) (Fr k (Bc E o.dst (.slice g (l++es).length m))) w'):At P fi R td (Fr k E) w:=by
 obtain ⟨rs,k0,hP⟩:(Th.row T n e A c l).P w:=H.all i _ hi
 obtain ⟨d,q0,z,hz,f0,y,t0⟩:∃ d,P.info? T=some d∧∃ z,d.zero=some z∧z.cells.size=n∧d.size=n∧d.bytes≤1024:=by
  cases hi:P.info? T with
  | none=>rw [hi] at a; cases a
  | some d=>
   rw [hi] at a
   simp only [Option.map_some,Option.some.injEq,Prod.mk.injEq,Option.map_eq_some_iff] at a
   obtain ⟨⟨z,h1,h2⟩,f,h4⟩:=a
   exact ⟨d,rfl,z,h1,h2,f,Nat.le_of_ble_eq_true h4⟩
 have v0:l.length + es.length≤maxLen:=by unfold maxLen; omega
 have p:(l.length + es.length) * d.bytes≤140737488355328:=Nat.le_trans (Nat.mul_le_mul e0 t0) (by decide)
 have r0:∀ q:List (List Value),(∀ r∈q,r.length=n)→q.flatten.length=q.length * n:=fun q=>by
  induction q with
  | nil=>intro _; simp
  | cons r q ih=>intro h; rw [List.flatten_cons,List.length_append,ih (fun r hr=>h r (by simp [hr])),h r (by simp),List.length_cons,Nat.succ_mul]; omega
 obtain ⟨v',w',hr,h2,f,_,h5⟩:=run_append_own_at (P:=P) (w:=w) 0 t o.type T d z n d.bytes ht q0 hz y rfl f0 i0 _ _ _ hP ad es.length cx rows.flatten (by rw [r0 rows hn,I4 v]) b0 (fun u hu=>by obtain ⟨r,hr,hu⟩:=List.mem_flatten.1 hu; exact List.all_eq_true.1 (h1 r hr) u hu) v0 p (Nat.zero_le _)
 have hv:∃ g m,v'=.slice g (l.length + es.length) m:=by
  rcases h2.2 with ⟨f,h0⟩ | ⟨g',cap,w0,rfl,_⟩
  ·exact ⟨none,0,by rw [f,h0]⟩
  ·exact ⟨_,cap,rfl⟩
 obtain ⟨g,m,rfl⟩:=hv
 have d0:(Th.row T n e g m (l++es)).P w':=⟨rs++rows,Tz k0 v,by
  rw [List.length_append,List.flatten_append]
  exact h2⟩
 have hF:∀ q,(Th.row T n e g m (l++es)).F q→q < w'.heap.size∧((Th.row T n e A c l).F q∨w.heap.size≤q):=fun q hq=>by
  have a0:(Value.slice g (l.length + es.length) m).ownBlock=some q:=by rw [show g=some ⟨q,0,none⟩ from hq]; rfl
  refine ⟨(Js h2 a0).2,?_⟩
  rcases h5 with h5 | h5
  ·exact .inl (DC hP (h5.symm.trans a0)).1
  ·right
   have:q=w.heap.size:=Option.some.inj (a0.symm.trans h5)
   omega
 have c0:∀ q,q < w.heap.size→¬ (Th.row T n e A c l).F q→w'.heap[q]?=w.heap[q]?:=fun q hq p0=>f.block q hq fun he=>p0 (DC hP he.symm).1
 have H':AU b w' (L.set i (Th.row T n e g m (l++es))):=H.set i hi f.size d0 hF c0
 have hB:Below b w w':=⟨f.os,f.tape,f.output,f.size,fun q hq=>f.block q (Nat.lt_of_lt_of_le hq H.base) fun he=>by
  have:=(H.lo i _ hi q (DC hP he.symm).1).1
  omega⟩
 unfold FY at hc
 split at hc
 ·rename_i ops i' r k'
  split at hc
  ·rename_i o' ho'
   split at hc
   ·rename_i hw
    obtain rfl:=Option.some.inj hc
    refine FU ho' (by rw [Ez]; exact hw) ?_
    unfold Oper.wp execOp
    rw [Cm]
    simp only [ho,resolve,invoke,builtin,Sem.run_bind,Sem.run_pure,Result.andThen_ok,List.map_toArray,List.map_cons,List.map_nil,hs,hx,hr]
    show wpOps P ops _ r ((Fr k E).put o'.dst (.slice g (l.length + es.length) m)) w'
    rw [Dy]
    have:=hk _ _ w' H' hB
    rw [List.length_append] at this
    exact this
   ·cases hc
  ·cases hc
 ·cases hc
end
theorem bP {n:Nat} {w:World} {g off:Nat} {rs:List (List Value)} (hn:∀ r∈rs,r.length=n) (hc:∀ (i:Nat) r,rs[i]?=some r→∀ (j:Nat) u,r[j]?=some u→w.cell? ⟨g,off + i * n + j,none⟩=some u):∀ j u,rs.flatten[j]?=some u→w.cell? ((⟨g,off,none⟩:Addr).add j)=some u:=by
 have key:∀ (rs:List (List Value)) (o:Nat),(∀ r∈rs,r.length=n)→(∀ (i:Nat) r,rs[i]?=some r→∀ (j:Nat) u,r[j]?=some u→w.cell? ⟨g,o + i * n + j,none⟩=some u)→∀ j u,rs.flatten[j]?=some u→w.cell? ⟨g,o + j,none⟩=some u:=by
  intro rs
  induction rs with
  | nil=>intro o _ _ j u h; simp at h
  | cons r rs ih=>
   intro o hn hc j u h
   rw [List.flatten_cons] at h
   have hr:r.length=n:=hn r (by simp)
   rcases GP h with a | ⟨a,h2⟩
   ·have:=hc 0 r rfl j u a
    simpa using this
   ·have:=ih (o + n) (fun r hr=>hn r (by simp [hr])) (fun i r hi j u hu=>by
     have:=hc (i + 1) r (by simpa using hi) j u hu
     rw [Nat.succ_mul] at this
     rw [show o + n + i * n + j=o + (i * n + n) + j by omega]
     exact this) (j - r.length) u h2
    rw [show o + n + (j - r.length)=o + j by omega] at this
    exact this
 intro j u h
 have:=key rs off hn hc j u h
 unfold Addr.add
 split
 ·rename_i hj; subst hj; exact this
 ·simpa using this
theorem Y1 {n:Nat} {w:World} {b:Addr} {rs:List (List Value)} (h:DI CY w n (some b) rs) (hn:∀ r∈rs,r.length=n):∀ j u,rs.flatten[j]?=some u→w.cell? (b.add j)=some u:=by
 rcases h with h | ⟨d,a,c,_,hg,hc⟩
 ·subst h
  intro j u hu
  simp at hu
 ·obtain rfl:=Option.some.inj c
  exact bP hn fun i r hi j u hu=>hc i r hi j u hu
end Go.Proofs.YtmcpjkcggfmcmaaGreatDoor
namespace Go.Proofs.YtmcpjkcggfmcmaaGreatDoor
noncomputable section
open Go.RowKit
set_option maxRecDepth 100000
set_option maxHeartbeats 1000000
attribute [local irreducible] BO CB AE AG AL Ay Aj AP Bc Cq Eb CT CO At Fr
def L3:List (Int×Int×Int):=[]
noncomputable def di:Code:=Tryz.f53.body.getD .skip
def qY:=AB 60 ([.code di])
def wN:=AB 60 (AG qY)
theorem Uv (g:Nat) (w:World):Calls Tryz.prog 53 ([.slice none 0 g]:List Value).toArray w fun e w'=>∃ (b:Option Addr) (a:Nat),e=.returned (.slice b ((L3).length) a)∧Below w.heap.size w w'∧AU w.heap.size w' [KR b a (L3)]:=by
 refine Af (fn:=Tryz.f53) (c:=di) (n:=8) ?_
 have k:=Wk.start w
 refine AC qY k [] fun m j=>?_
 refine AM true (fun _=>?_) (fun h=>nomatch h)
 have i:=j.addNil 97 3 (fun e r=>r=Ua e)
 refine AC wN i [] fun l d=>?_
 have f:(L3)=[]:=by unfold L3; rfl
 exact Ab d (0,0) (.slice none 0 0) ⟨none,0,by rw [f] <;> rfl,d.B,by rw [f]; exact d.own0 [0] rfl (by decide)⟩
def QB (es:List (Int×Int×Int)):List (Int×Int×Int):=([])++es
noncomputable def dg:Code:=Tryz.f53.body.getD .skip
def fz:=AB 60 ([.code dg])
def fy:=AB (BA Bb 90 (AL fz)) (AL fz)
def wL:=AB 60 (AE fy)
theorem ZT (j:Addr) (es:List (Int×Int×Int)) (o:Nat) (w:World) (d:DW w (some j) es) (i:es.length≤4294967296):Calls Tryz.prog 53 ([.slice (some j) es.length o]:List Value).toArray w fun e w'=>∃ (b:Option Addr) (a:Nat),e=.returned (.slice b ((QB es).length) a)∧Below w.heap.size w w'∧AU w.heap.size w' [KR b a (QB es)]:=by
 refine Af (fn:=Tryz.f53) (c:=dg) (n:=8) ?_
 have x:=Wk.start w
 refine AC fz x [] fun l v=>?_
 refine AM false (fun h=>nomatch h) (fun _=>?_)
 refine Cb Bb fy [⟨l.heap.size,0,[],97,true⟩] v [] fun w2 u=>?_
 have f:=u.entRow 0 (g:=l.heap.size) (U:=97) (n:=3) (fun e r=>r=Ua e) (by kernel_rfl)
 refine mv f.H (f.ix 0) (f.at 0 rfl) es (List.map Ua es) (Nn _) j o (Y1 (d.below f.B) (fun r hr=>by obtain ⟨e,_,rfl⟩:=List.mem_map.1 hr; rfl)) (DM fy) (by kernel_rfl) (.tmp 5) (.tmp 6) 27 (by kernel_rfl) (by kernel_rfl) (by kernel_rfl) (by decide) (by kernel_rfl) (by kernel_rfl) (fun r hr=>by obtain ⟨e,_,rfl⟩:=List.mem_map.1 hr; rfl) (fun r hr=>by obtain ⟨e,_,rfl⟩:=List.mem_map.1 hr; rfl) (by ((try simp only [maxLen,List.length_append,List.length_cons,List.length_nil,List.length_singleton]) <;> omega)) fun q p w3 y s=>?_
 have t:=f.put 0 (by simp) s y
 refine AC wL t [] fun z k=>?_
 have m:(QB es)=([])++es:=by unfold QB; rfl
 exact Ab k (0,0) (.slice q ((([])++es).length) p) ⟨q,p,by rw [m] <;> rfl,k.B,by rw [m]; exact k.own0 [0] rfl (by decide)⟩
theorem dq (A:Option Addr) (es:List (Int×Int×Int)) (c:Nat) (w:World) (b:DW w A es) (d:es.length≤4294967296):Calls Tryz.prog 53 ([.slice A es.length c]:List Value).toArray w fun e w'=>∃ (i:Option Addr) (f:Nat),e=.returned (.slice i es.length f)∧Below w.heap.size w w'∧AU w.heap.size w' [KR i f es]:=by
 cases A with
 | none=>
  rcases b with h | ⟨g,off,h,_⟩
  ·have:=congrArg List.length h
   simp at this
   subst this
   exact Uv c w
  ·cases h
 | some a=>exact ZT a es c w b d
end
end Go.Proofs.YtmcpjkcggfmcmaaGreatDoor
namespace Go.Proofs.YtmcpjkcggfmcmaaGreatDoor
open Go.RowKit
set_option maxRecDepth 100000
set_option maxHeartbeats 600000
theorem AU.mono {b a:Nat} {w:World} {L:List Th} (h:AU b w L) (hb:a≤b):AU a w L:=
 ⟨Nat.le_trans hb h.base,h.all,fun i t ht k hf=>⟨Nat.le_trans hb (h.lo i t ht k hf).1,(h.lo i t ht k hf).2⟩,h.apart⟩
section
variable {P:Program} {α:Type} {T:TypeId} {n:Nat} {rel:α→List Value→Prop} {b:Nat} {A:Option Addr} {c:Nat} {l:List α} {L:List Th} {w:World} {k:Nat} {E:Nat→Value}
theorem gf (H:AU b w L) (i:Nat) (hi:L[i]?=some (Th.row T n rel A c l)) (e:α) (row:List Value) (a0:rel e row) (g:Nat)
  (y:BI.good w ⟨g,0,row,T,true⟩) (o:Oper) (s x:Operand) (t:TypeId) (ho:o.op=.call { callee:=.builtin .append,args:=#[s,x],argTypes:=#[t,t] })
  (ht:P.underlying t=some (.slice T)) (a:(P.info? T).map (fun i=>(i.zero.map (·.cells.size),i.size,Nat.ble i.bytes 1024))=some (some n,n,true)) (e0:0 < n)
  (hs:BN k E s=.slice A l.length c) (hx:BN k E x=.slice (some ⟨g,0,none⟩) 1 1) (hn:row.length=n) (h1:row.all (·.oneCell')=true) (b0:l.length + 1≤100000000000) :
  ∃ A' c' w',(execOp (BN k E) o).run P w=.ok (.value (.slice A' (l++[e]).length c')) w'∧AU b w' (L.set i (Th.row T n rel A' c' (l++[e])))∧Below b w w':=by
 obtain ⟨rs,f0,hP⟩:(Th.row T n rel A c l).P w:=H.all i _ hi
 obtain ⟨d,k0,z,hz,d0,p,p0⟩:∃ d,P.info? T=some d∧∃ z,d.zero=some z∧z.cells.size=n∧d.size=n∧d.bytes≤1024:=by
  cases hi:P.info? T with
  | none=>rw [hi] at a; cases a
  | some d=>
   rw [hi] at a
   simp only [Option.map_some,Option.some.injEq,Prod.mk.injEq,Option.map_eq_some_iff] at a
   obtain ⟨⟨z,h1,h2⟩,m,h4⟩:=a
   exact ⟨d,rfl,z,h1,h2,m,Nat.le_of_ble_eq_true h4⟩
 have q0:l.length + 1≤maxLen:=by unfold maxLen; omega
 have h:(l.length + 1) * d.bytes≤140737488355328:=Nat.le_trans (Nat.mul_le_mul b0 p0) (by decide)
 have v:∀ j u,row[j]?=some u→w.cell? ((⟨g,0,none⟩:Addr).add j)=some u:=fun j u hu=>by
  have c0:(⟨g,0,none⟩:Addr).add j=⟨g,j,none⟩:=by
   unfold Addr.add
   split
   ·rename_i hj; rw [hj]
   ·simp
  rw [c0]
  exact Fl y hu rfl (by show j=0 + j; omega) rfl
 obtain ⟨v',w',hr,h2,m,_,h5⟩:=run_append_own_at (P:=P) (w:=w) 0 t o.type T d z n d.bytes ht k0 hz p rfl d0 e0 _ _ _ hP ⟨g,0,none⟩ 1 1 row (by rw [hn,Nat.one_mul]) v (fun u hu=>List.all_eq_true.1 h1 u hu) q0 h (Nat.zero_le _)
 have hv:∃ f c',v'=.slice (some ⟨f,0,none⟩) (l.length + 1) c':=by
  rcases h2.2 with ⟨_,h0⟩ | ⟨f,cap,r0,rfl,_⟩
  ·omega
  ·exact ⟨f,cap,rfl⟩
 obtain ⟨f,c',rfl⟩:=hv
 refine ⟨some ⟨f,0,none⟩,c',w',?_,H.set i hi m.size ⟨rs++[row],Mc a0 f0,?_⟩ (fun q hq=>?_) (fun q hq i0=>m.block q hq fun he=>i0 (DC hP he.symm).1),⟨m.os,m.tape,m.output,m.size,fun q hq=>m.block q (Nat.lt_of_lt_of_le hq H.base) fun he=>?_⟩⟩
 ·unfold execOp
  simp only [ho,resolve,invoke,builtin,Sem.run_bind,Sem.run_pure,Result.andThen_ok,List.map_toArray,List.map_cons,List.map_nil,hs,hx,hr]
  rw [List.length_append,List.length_singleton]
 ·rw [List.length_append,List.length_singleton,List.flatten_append]
  simpa using h2
 ·have r:some (⟨f,0,none⟩:Addr)=some ⟨q,0,none⟩:=hq
  obtain rfl:f=q:=by injection r with r; injection r
  refine ⟨(Js h2 (g:=f) rfl).2,?_⟩
  rcases h5 with h5 | h5
  ·exact .inl (DC hP (h5.symm.trans rfl)).1
  ·right
   have:f=w.heap.size:=Option.some.inj (show some f=some w.heap.size from h5)
   omega
 ·have:=(H.lo i _ hi q (DC hP he.symm).1).1
  omega
end
section
variable {P:Program} {ops:Array Oper} {Q:Exit→Act→World→Prop} {md:Region.Mode} {n:Nat} {E:Nat→Value}
theorem mx {a:Array Bool} {fuel i:Nat} {w w':World} {v:Value} (o:Oper) (hr:Region.ready md ops a=[i]) (ho:ops[i]?=some o) (hg:o.guard=none)
  (c:(execOp (BN n E) o).run P w=.ok (.value v) w') (b:wpAny P md ops Q fuel (a.setIfInBounds i true) (Fr n (Bc E o.dst v)) w'):wpAny P md ops Q (fuel + 1) a (Fr n E) w:=by
 refine Gs hr ho hg ?_
 unfold Oper.wp
 rw [Cm,c]
 rw [← Dy] at b
 exact b
theorem my {a:Array Bool} {fuel i:Nat} {w w':World} (o:Oper) (hr:Region.ready md ops a=[i]) (ho:ops[i]?=some o) (hg:o.guard=none)
  (c:(execOp (BN n E) o).run P w=.ok .skip w') (b:wpAny P md ops Q fuel (a.setIfInBounds i true) (Fr n (Bc E o.dst undef)) w'):wpAny P md ops Q (fuel + 1) a (Fr n E) w:=by
 refine Gs hr ho hg ?_
 unfold Oper.wp
 rw [Cm,c]
 rw [← Dy] at b
 exact b
end
section
variable {P:Program} {ops:Array Oper} {Q:Exit→Act→World→Prop} {md:Region.Mode} {n:Nat} {E:Nat→Value}
theorem C5 {b:Array Bool} {fuel i:Nat} {w:World} {v:Value} (o:Oper) (g:∀ c a w,Q (.panic c) (a.put o.dst v) w→Q (.panic c) a w) (f:wpAny P md ops Q fuel (b.setIfInBounds i true) (Fr n (Bc E o.dst v)) w) (ho:ops[i]?=some o:=by kernel_rfl) (hg:o.guard=none:=by kernel_rfl) (hs:Region.noSelect ops=true:=by kernel_rfl) (hf:Region.free md ops b i=true:=by kernel_rfl) (hr:(Region.ready md ops b).contains i=true:=by kernel_rfl) (hv:(Dn P (execOp (BN n E) o) ⟨0,[],(0,0),[]⟩).map (fun p=>(p.1,p.2.eqs))=some (.value v,[]):=by kernel_rfl):wpAny P md ops Q (fuel + 1) b (Fr n E) w:=by
 refine wpAny_take ho hs hf hr g (.inl ⟨?_,fun u=>?_⟩) (by rw [Dy]; exact f)
 ·unfold Region.wanted
  rw [hg]
 ·rw [Cm]
  cases hl:Dn P (execOp (BN n E) o) ⟨0,[],(0,0),[]⟩ with
  | none=>rw [hl] at hv; cases hv
  | some p=>
   obtain ⟨r,h⟩:=p
   rw [hl] at hv
   simp only [Option.map_some,Option.some.injEq,Prod.mk.injEq] at hv
   obtain ⟨rfl,h2⟩:=hv
   exact Ij _ _ _ _ hl (fun e he=>by cases he) (fun q d=>by rw [h2] at d; cases d)
end
abbrev RQ:=List (Int×Int×Int)×Option Addr×Nat
abbrev Qv (x:RQ):List Value:=[.slice x.2.1 x.1.length x.2.2]
abbrev Ng (x:RQ):Th:=KR x.2.1 x.2.2 x.1
abbrev EZ (A:Option Addr) (c:Nat) (xs:List RQ):Th:=Th.row 27 1 (fun e r=>r=Qv e) A c xs
abbrev DY (xs:List RQ):Th:=Th.all (xs.map Ng)
theorem AU.addFam {β:Type} {b:Nat} {w:World} {L:List Th} (h:AU b w L) (f:β→Th):AU b w (L++[Th.all (([]:List β).map f)]):=
 h.add _ (fun u hu=>by simp at hu) (fun k ⟨u,hu,_⟩=>by simp at hu)
theorem Wk.addFam {β:Type} {w0 w:World} {M:List BI} {L T:List Th} (K:Wk w0 w M L T) (f:β→Th):Wk w0 w M (L++[Th.all (([]:List β).map f)]) T:=K.join (Below.refl _ _) ((AU.nil (Nat.le_refl _)).addFam f)
end Go.Proofs.YtmcpjkcggfmcmaaGreatDoor

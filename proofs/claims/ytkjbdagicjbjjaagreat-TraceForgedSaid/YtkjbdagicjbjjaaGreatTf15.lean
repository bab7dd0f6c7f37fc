/-
  Part 15 of a proof: contracts of functions.
-/
import Derived.Test.YtkjbdagicjbjjaaGreatTf14
import Derived.Test.YtkjbdagicjbjjaaGreatTf12
import Derived.Test.YtkjbdagicjbjjaaGreatTf05
set_option linter.all false
namespace Go.Proofs.YtkjbdagicjbjjaaGreat
noncomputable section
open Go.RowKit
set_option maxRecDepth 100000
set_option maxHeartbeats 1000000
attribute [local irreducible] A8 BL AC AD AF Ao AY AL Aq Bb Cn BR BK At Fr
def Cs (F:Df→Bool):List (Df)→Nat→Int→Int
 | [],i0,a0_0=>-1
 | e0 :: tl,i0,a0_0=>cond (F e0) ((i0:Int)) (Cs F tl (i0 + 1) a0_0)
theorem P2 {F:Df→Bool} {b:Nat} {a:Int}:Cs F [] b a=(-1):=by rw [Cs]
theorem OP {F:Df→Bool} {b:Int} {es:List (Df)} (a:Nat) (c:Df) (hi:es[a]?=some c):Cs F (es.drop a) a b=(cond (F c) ((a:Int)) (Cs F (es.drop (a + 1)) (a + 1) b)):=by
 have hl:a < es.length:=(List.getElem?_eq_some_iff.1 hi).1
 have he:es[a]=c:=(List.getElem?_eq_some_iff.1 hi).2
 rw [← List.getElem_cons_drop hl,Cs] <;> (try rw [he])
def AH (F:Df→Bool) (ds:List (Df)):Int:=Cs F ds 0 0
noncomputable def kP:Code:=Tryz.f72.body.getD .skip
def lj:=AA 60 ([.code kP])
def Yv:=AA 60 (Ao lj)
def tv:=AA (Ak Aa 90 (AD Yv)) (AD Yv)
def tu:=AA 60 (AC (AC tv))
def tt:=AA 60 (AC tu)
def ACP:=AA 60 (AD tt)
def ACO:=AA 60 (AF Yv)
theorem Nr (F:Df→Bool) (q:Option Addr) (ds:List (Df)) (h:Nat) (g:FuncId) (cap:List Value) (w:World) (c0:rowsDf w q ds) (j0:ds.length≤4294967296) (hg:DG Tryz.prog g=true) (hF:∀ u,Below w.heap.size w u→∀ (e:Df) (A1:Option Addr) (c1:Nat) (A2:Option Addr) (c2:Nat),Cb u A1 e.ents→rowsEx u A2 e.body.ks→Calls Tryz.prog g (.agg ⟨Be e A1 c1 A2 c2⟩ :: cap).toArray u fun en w'=>en=.returned (.bool (F e))∧Below u.heap.size u w'):Calls Tryz.prog 72 ([.slice q ds.length h,.func (.func g) #[] ⟨cap⟩]:List Value).toArray w fun e w'=>e=.returned (AI (AH F ds))∧Below w.heap.size w w':=by
 refine AR (fn:=Tryz.f72) (c:=kP) (n:=19) ?_
 have K1:=Wk.start w
 refine AB lj K1 [] fun w1 K2=>?_
 have K3:Wk w w1 [] [] []:=K2.pk [] []
 have d:(AH F ds)=Cs F ds 0 0:=by unfold AH; rfl
 refine AU [(0,.slice q ds.length h),(1,.func (.func g) #[] ⟨cap⟩),(4,AI 0),(7,AI ((ds.length:Int))),(8,AI (((0:Nat):Int)))] fun E2=>?_
 refine Bd (by kernel_rfl) (fun E y=>∃ (b:Nat) (f:Int) (E0:Nat→Value),b≤ds.length∧E=BC E0 [(0,.slice q ds.length h),(1,.func (.func g) #[] ⟨cap⟩),(4,AI f),(7,AI ((ds.length:Int))),(8,AI ((b:Int)))]∧(AH F ds)=Cs F (List.drop b ds) b f∧Wk w y [] [] []) (fun E _=>ds.length - AK (E 8)) ⟨0,0,E2,Nat.zero_le _,rfl,d,K3⟩ ?_
 clear d
 rintro E y ⟨b,f,E0,s0,rfl,d,K4⟩ j
 refine AB Yv K4 [] fun w4 K5=>?_
 refine AG (decide ((b:Int) < (ds.length:Int))) (fun c5=>?_) (fun c5=>?_)
 ·have i:b < ds.length:=by have:=of_decide_eq_true c5; omega
  obtain ⟨a,b0⟩:∃ e,ds[b]?=some e:=⟨_,List.getElem?_eq_getElem i⟩
  rw [OP b a b0] at d
  obtain ⟨t,v,rfl,d0,g0⟩:=c0.all (by omega)
  obtain ⟨p,m,o,l,z,s,r⟩:=g0 b _ b0
  refine Ae Aa tv K5 [] fun w6 K6=>?_
  refine Au (g:=t) (off:=v) (cap:=h) (sz:=21) (k:=b) (len:=ds.length) (some 14) i Tryz.underlying25 ?_
  refine BI 59 t (v + b * 21) [AI a.kind,By (a.name),.bool (a.tb),AI a.tm,AI a.th,AI a.td,AI a.frm,.slice p a.ents.length m,AI a.body.op,AI a.body.num,AI a.body.den,AI a.body.mu,AI a.body.hu,AI a.body.du,By (a.body.nm),AI a.body.cnt,AI a.body.md,.slice o a.body.ks.length l,AI a.mode,AI a.num,AI a.den] (some 15) (Ab z d0 K6.B) ?_
  refine AB tu K6 [] fun w7 K7=>?_
  refine M3 g (.agg ⟨[AI a.kind,By (a.name),.bool (a.tb),AI a.tm,AI a.th,AI a.td,AI a.frm,.slice p a.ents.length m,AI a.body.op,AI a.body.num,AI a.body.den,AI a.body.mu,AI a.body.hu,AI a.body.du,By (a.body.nm),AI a.body.cnt,AI a.body.md,.slice o a.body.ks.length l,AI a.mode,AI a.num,AI a.den]⟩ :: cap) (hg:=hg) (hF w7 K7.B _ _ _ _ _ (s.below K7.B) (r.below K7.B)) fun en w8 hh=>?_
  obtain ⟨rfl,b8⟩:=hh
  refine ⟨_,rfl,?_⟩
  have K8:=K7.below b8
  refine AB tt K8 [] fun w9 K9=>?_
  refine AG (F a) (fun x=>?_) (fun x=>?_)
  ·refine AB ACP K9 [] fun r0 n0=>?_
   exact AP n0 (0,0) (AI ((b:Int))) (by rw [d,x] <;> rfl)
  ·refine AB (AY lj) K9 [] fun h0 m0=>?_
   refine AU [(0,.slice (some ⟨t,v,none⟩) ds.length h),(1,.func (.func g) #[] ⟨cap⟩),(4,AI f),(7,AI ((ds.length:Int))),(8,AI (IntKind.i64.wrap ((b:Int) + 1)))] fun p0=>?_
   have l0:Wk w h0 [] [] []:=m0.pk [] []
   rw [Bc b (by omega)]
   refine j _ _ ⟨b + 1,f,p0,i,rfl,by rw [d,x] <;> rfl,l0⟩ ?_
   show ds.length - AK (AI ((b + 1:Nat):Int)) < ds.length - AK (AI (b:Int))
   simp only [AK]
   omega
 ·have a0:b=ds.length:=by have:=of_decide_eq_false c5; omega
  rw [a0,List.drop_length,P2] at d
  refine AB ACO K5 [] fun q0 k0=>?_
  exact AP k0 (0,0) (AI (-1)) (by rw [d] <;> rfl)
def Dk (F:Df→Bool) (ds:List (Df)):Bool:=decide (0≤AH F ds)
noncomputable def Xi:Code:=Tryz.f47.body.getD .skip
def n6:=AA 60 ([.code Xi])
def zM:=AA 60 (AC n6)
theorem Qw (F:Df→Bool) (a:Option Addr) (ds:List (Df)) (d:Nat) (g:FuncId) (cap:List Value) (w:World) (f:rowsDf w a ds) (b:ds.length≤4294967296) (hg:DG Tryz.prog g=true) (m:∀ u,Below w.heap.size w u→∀ (e:Df) (j:Option Addr) (q:Nat) (i:Option Addr) (p:Nat),Cb u j e.ents→rowsEx u i e.body.ks→Calls Tryz.prog g (.agg ⟨Be e j q i p⟩ :: cap).toArray u fun o w'=>o=.returned (.bool (F e))∧Below u.heap.size u w'):Calls Tryz.prog 47 ([.slice a ds.length d,.func (.func g) #[] ⟨cap⟩]:List Value).toArray w fun e w'=>e=.returned (.bool (Dk F ds))∧Below w.heap.size w w':=by
 refine AR (fn:=Tryz.f47) (c:=Xi) (n:=9) ?_
 have v:=Wk.start w
 refine AB n6 v [] fun k h=>?_
 refine AQ h (args:=[.slice a ds.length d,.func (.func g) #[] ⟨cap⟩]) (Nr F _ ds _ g cap k (f.below h.B) b hg (fun l r=>m l (h.B.trans (r.mono h.B.size)))) fun y t=>?_
 refine AB zM t [] fun x s=>?_
 exact AP s (0,0) (.bool (decide (0≤AH F ds))) (by unfold Dk; rfl)
end
end Go.Proofs.YtkjbdagicjbjjaaGreat
namespace Go.Proofs.YtkjbdagicjbjjaaGreat
noncomputable section
open Go.RowKit
set_option maxRecDepth 100000
set_option maxHeartbeats 1000000
attribute [local irreducible] A8 BL AC AD AF Ao AY AL Aq Bb Cn BR BK At Fr
def si (T:TypeId) (x:Nat):Op→Bool
 | .load t (.tmp y)=>t == T && y == x
 | _=>false
def Ew (x:Df) (d:Df):Bool:=Fp x d
noncomputable def WM:Code:=Tryz.f48.body.getD .skip
def xd:=AA (Ak (si 59 1) 90 ([.code WM])) ([.code WM])
def xc:=AA 60 (AC (xd))
def ADD:=AA 60 (AC xc)
theorem XE (x:Df) (g:Option Addr) (l:Nat) (f:Option Addr) (k b:Nat) (d:Df) (j:Option Addr) (o:Nat) (i:Option Addr) (m:Nat) (w:World) (q:Cb w g x.ents) (p:rowsEx w f x.body.ks) (h:b < w.heap.size) (a:w.rangeAt b 0 [AI d.kind,By (d.name),.bool (d.tb),AI d.tm,AI d.th,AI d.td,AI d.frm,.slice j d.ents.length o,AI d.body.op,AI d.body.num,AI d.body.den,AI d.body.mu,AI d.body.hu,AI d.body.du,By (d.body.nm),AI d.body.cnt,AI d.body.md,.slice i d.body.ks.length m,AI d.mode,AI d.num,AI d.den]) (s:Cb w j d.ents) (r:rowsEx w i d.body.ks):Calls Tryz.prog 48 ([.agg ⟨[AI x.kind,By (x.name),.bool (x.tb),AI x.tm,AI x.th,AI x.td,AI x.frm,.slice g x.ents.length l,AI x.body.op,AI x.body.num,AI x.body.den,AI x.body.mu,AI x.body.hu,AI x.body.du,By (x.body.nm),AI x.body.cnt,AI x.body.md,.slice f x.body.ks.length k,AI x.mode,AI x.num,AI x.den]⟩,BY b]:List Value).toArray w fun e w'=>e=.returned (.bool (Ew x d))∧Below w.heap.size w w':=by
 refine AR (fn:=Tryz.f48) (c:=WM) (n:=7) ?_
 have z:=h
 have u:=a
 have K1:=Wk.start w
 refine Ye (si 59 1) xd K1 [(0,0)] fun w1 v=>?_
 refine BI 59 b 0 [AI d.kind,By (d.name),.bool (d.tb),AI d.tm,AI d.th,AI d.td,AI d.frm,.slice j d.ents.length o,AI d.body.op,AI d.body.num,AI d.body.den,AI d.body.mu,AI d.body.hu,AI d.body.du,By (d.body.nm),AI d.body.cnt,AI d.body.md,.slice i d.body.ks.length m,AI d.mode,AI d.num,AI d.den] (some 5) (Ab a h v.B) ?_
 refine AB xc v [] fun y t=>?_
 refine AQ t (W7 x g l f k d j o i m y (q.below t.B) (p.below t.B) (s.below t.B) (r.below t.B)) fun w3 K4=>?_
 refine AB ADD K4 [] fun w4 K5=>?_
 exact AP K5 (0,0) (.bool (Fp x d)) (by unfold Ew; rfl)
def AE (x:Df) (d:Df):Bool:=decide (x.name=d.name)
noncomputable def ky:Code:=Tryz.f74.body.getD .skip
def xa:=Ai 1 ([.code ky])
def ADC:=AA 60 (AL xa)
theorem QJ (x:Df) (f:Option Addr) (i:Nat) (a:Option Addr) (h b:Nat) (d:Df) (m:Option Addr) (q:Nat) (l:Option Addr) (p:Nat) (w:World) (v:Cb w f x.ents) (t:rowsEx w a x.body.ks) (k:b < w.heap.size) (g:w.rangeAt b 0 [AI d.kind,By (d.name),.bool (d.tb),AI d.tm,AI d.th,AI d.td,AI d.frm,.slice m d.ents.length q,AI d.body.op,AI d.body.num,AI d.body.den,AI d.body.mu,AI d.body.hu,AI d.body.du,By (d.body.nm),AI d.body.cnt,AI d.body.md,.slice l d.body.ks.length p,AI d.mode,AI d.num,AI d.den]) (a0:Cb w m d.ents) (z:rowsEx w l d.body.ks):Calls Tryz.prog 74 ([.agg ⟨[AI x.kind,By (x.name),.bool (x.tb),AI x.tm,AI x.th,AI x.td,AI x.frm,.slice f x.ents.length i,AI x.body.op,AI x.body.num,AI x.body.den,AI x.body.mu,AI x.body.hu,AI x.body.du,By (x.body.nm),AI x.body.cnt,AI x.body.md,.slice a x.body.ks.length h,AI x.mode,AI x.num,AI x.den]⟩,BY b]:List Value).toArray w fun e w'=>e=.returned (.bool (AE x d))∧Below w.heap.size w w':=by
 refine AR (fn:=Tryz.f74) (c:=ky) (n:=9) ?_
 have o:=k
 have j:=g
 have K1:=Wk.start w
 refine Bp 1 xa [⟨w.heap.size,0,(Be x f i a h),59,true⟩] K1 [] fun w1 r=>?_
 refine Ap r [(1,0,1),(3,1,1)] [⟨4,[(5,By (x.name)),(7,By (d.name))],.bool (decide (x.name=d.name)),true⟩] (Lw (x:=⟨b,0 + 0 * 0,[AI d.kind,By (d.name),.bool (d.tb),AI d.tm,AI d.th,AI d.td,AI d.frm,.slice m d.ents.length q,AI d.body.op,AI d.body.num,AI d.body.den,AI d.body.mu,AI d.body.hu,AI d.body.du,By (d.body.nm),AI d.body.cnt,AI d.body.md,.slice l d.body.ks.length p,AI d.mode,AI d.num,AI d.den],59,false⟩) r.G ⟨Nat.lt_of_lt_of_le o r.B.size,Ab j o r.B⟩) (fun sp s=>?_) fun w2 E2 K3=>?_
 ·rw [List.mem_singleton.1 s]
  exact BG fun _ E u _=>Gw (T:=9) (T':=9) (x:=.tmp 5) (y:=.tmp 7)
 refine AB ADC K3 [] fun w3 K4=>?_
 exact AP K4 (0,0) (.bool (decide (x.name=d.name))) (by unfold AE; rfl)
end
end Go.Proofs.YtkjbdagicjbjjaaGreat
namespace Go.Proofs.YtkjbdagicjbjjaaGreat
open Go.RowKit
set_option maxRecDepth 100000
section
variable {b:Nat} {w w':World} {L L':List Th}
theorem W2 {n:Nat} {xs:List (List Value)} (hn:∀ r∈xs,r.length=n):∀ (i:Nat) (r:List Value),xs[i]?=some r→∀ (j:Nat) u,r[j]?=some u→xs.flatten[i * n + j]?=some u:=by
 induction xs with
 | nil=>intro i e hi; simp at hi
 | cons x xs ih=>
  intro i r hi j u hu
  have hx:x.length=n:=hn x (by simp)
  cases i with
  | zero=>
   simp at hi
   subst hi
   have a:j < x.length:=(List.getElem?_eq_some_iff.1 hu).1
   rw [List.flatten_cons,List.getElem?_append_left (by omega),Nat.zero_mul,Nat.zero_add]
   exact hu
  | succ i=>
   have:=ih (fun r hr=>hn r (by simp [hr])) i r (by simpa using hi) j u hu
   rw [List.flatten_cons,List.getElem?_append_right (by rw [hx,Nat.succ_mul]; omega),hx,show (i + 1) * n + j - n=i * n + j by rw [Nat.succ_mul]; omega]
   exact this
theorem RR {T:TypeId} {n:Nat} {A:Option Addr} {m c:Nat} {rs:List (List Value)} (hm:rs.length=m) (hn:∀ r∈rs,r.length=n) (ho:w.ownsRow 0 T n (.slice A m c) m rs.flatten):DI Ca w n A rs:=by
 rcases ho.2 with ⟨a,e⟩ | ⟨g,cap,b,a,hb,hg,hc,d,hs,ht⟩
 ·have:rs=[]:=List.eq_nil_of_length_eq_zero (hm.trans e)
  subst this
  cases a
  exact .inl rfl
 ·cases a
  refine .inr ⟨g,0,rfl,trivial,(Array.getElem?_eq_some_iff.1 hg).1,fun i r hi j u hu=>?_⟩
  have a:=W2 hn i r hi j u hu
  rw [← ht,List.getElem?_take] at a
  split at a
  ·have h2:b[i * n + j]?=some u:=by rw [← Array.getElem?_toList]; exact a
   rw [show (0 + i * n + j)=i * n + j by omega]
   simp [World.cell?,hg,h2]
  ·cases a
theorem Ac.rows {α:Type} {T:TypeId} {n:Nat} {a:α→List Value→Prop} {A:Option Addr} {c:Nat} {l:List α} (hn:∀ e r,a e r→r.length=n) (h:Ac b w L) (i:Nat) (hi:L[i]?=some (Th.row T n a A c l)):∃ rs,EF a l rs∧DI Ca w n A rs:=by
 obtain ⟨rs,hr,ho⟩:(Th.row T n a A c l).P w:=h.all i _ hi
 exact ⟨rs,hr,RR (FO hr) (Hx hn hr) ho⟩
theorem Ac.rowsF {α:Type} {T:TypeId} {n:Nat} {f:α→List Value} {A:Option Addr} {c:Nat} {l:List α} (hn:∀ e,(f e).length=n) (h:Ac b w L) (i:Nat) (hi:L[i]?=some (Th.row T n (fun e r=>r=f e) A c l)):CU n f w A l:=by
 obtain ⟨rs,hr,hs⟩:=h.rows (fun e r hr=>hr ▸ hn e) i hi
 rw [Hj hr] at hs
 exact hs
end
section
variable {P:Program} {fi:FuncId} {R:Ending→World→Prop}
theorem Cg {α:Type} {T:TypeId} {n:Nat} {rel:α→List Value→Prop} {b:Nat} {A:Option Addr} {c:Nat} {l:List α} {L:List Th} {w:World} {k:Nat} {td:List Item} {E:Nat→Value} (H:Ac b w L) (i:Nat) (hi:L[i]?=some (Th.row T n rel A c l)) (e:α) (row:List Value) (hrel:rel e row) (g:Nat)
  (hgood:Az.good w ⟨g,0,row,T,true⟩) (o:Oper) (hc:Fx k E td=some o) (s x:Operand) (t:TypeId) (ho:o.op=.call { callee:=.builtin .append,args:=#[s,x],argTypes:=#[t,t] })
  (ht:P.underlying t=some (.slice T)) (hinfo:(P.info? T).map (fun i=>(i.zero.map (·.cells.size),i.size,Nat.ble i.bytes 1024))=some (some n,n,true)) (hsz:0 < n)
  (hs:Ax k E s=.slice A l.length c) (hx:Ax k E x=.slice (some ⟨g,0,none⟩) 1 1) (hn:row.length=n) (h1:row.all (·.oneCell')=true) (hlen:l.length + 1≤100000000000)
  (hk:∀ A' c' w',Ac b w' (L.set i (Th.row T n rel A' c' (l++[e])))→Below b w w'→At P fi R (AC td) (Fr k (Aq E o.dst (.slice A' (l++[e]).length c'))) w'):At P fi R td (Fr k E) w:=by
 obtain ⟨rs,hrs,hP⟩:(Th.row T n rel A c l).P w:=H.all i _ hi
 obtain ⟨inf,hin,z,hz,hzs,hsize,hby⟩:∃ inf,P.info? T=some inf∧∃ z,inf.zero=some z∧z.cells.size=n∧inf.size=n∧inf.bytes≤1024:=by
  cases hi:P.info? T with
  | none=>rw [hi] at hinfo; cases hinfo
  | some inf=>
   rw [hi] at hinfo
   simp only [Option.map_some,Option.some.injEq,Prod.mk.injEq,Option.map_eq_some_iff] at hinfo
   obtain ⟨⟨z,h1,h2⟩,h3,h4⟩:=hinfo
   exact ⟨inf,rfl,z,h1,h2,h3,Nat.le_of_ble_eq_true h4⟩
 have h63:l.length + 1≤maxLen:=by unfold maxLen; omega
 have hbytes:(l.length + 1) * inf.bytes≤140737488355328:=Nat.le_trans (Nat.mul_le_mul hlen hby) (by decide)
 have hnews:∀ j u,row[j]?=some u→w.cell? ((⟨g,0,none⟩:Addr).add j)=some u:=fun j u hu=>by
  have hadd:(⟨g,0,none⟩:Addr).add j=⟨g,j,none⟩:=by
   unfold Addr.add
   split
   ·rename_i hj; rw [hj]
   ·simp
  rw [hadd]
  exact EH hgood hu rfl (by show j=0 + j; omega) rfl
 obtain ⟨v',w',hr,h2,h3,_,h5⟩:=run_append_own_at (P:=P) (w:=w) 0 t o.type T inf z n inf.bytes ht hin hz hsize rfl hzs hsz _ _ _ hP ⟨g,0,none⟩ 1 1 row (by rw [hn,Nat.one_mul]) hnews (fun u hu=>List.all_eq_true.1 h1 u hu) h63 hbytes (Nat.zero_le _)
 have hv:∃ g' c',v'=.slice (some ⟨g',0,none⟩) (l.length + 1) c':=by
  rcases h2.2 with ⟨_,h0⟩ | ⟨g',cap,cur,rfl,_⟩
  ·omega
  ·exact ⟨g',cap,rfl⟩
 obtain ⟨g',c',rfl⟩:=hv
 have hrow:(Th.row T n rel (some ⟨g',0,none⟩) c' (l++[e])).P w':=⟨rs++[row],MZ hrel hrs,by
  rw [List.length_append,List.length_singleton,List.flatten_append]
  simpa using h2⟩
 have hF:∀ q,(Th.row T n rel (some ⟨g',0,none⟩) c' (l++[e])).F q→q < w'.heap.size∧((Th.row T n rel A c l).F q∨w.heap.size≤q):=fun q (hq:some (⟨g',0,none⟩:Addr)=some ⟨q,0,none⟩)=>by
  obtain rfl:g'=q:=by injection hq with hq; injection hq
  refine ⟨(JP h2 (g:=g') rfl).2,?_⟩
  rcases h5 with h5 | h5
  ·exact .inl (Cw hP (h5.symm.trans rfl)).1
  ·right
   have:g'=w.heap.size:=Option.some.inj (show some g'=some w.heap.size from h5)
   omega
 have hkeep:∀ q,q < w.heap.size→¬ (Th.row T n rel A c l).F q→w'.heap[q]?=w.heap[q]?:=fun q hq hnf=>h3.block q hq fun he=>hnf (Cw hP he.symm).1
 have H':Ac b w' (L.set i (Th.row T n rel (some ⟨g',0,none⟩) c' (l++[e]))):=H.set i hi h3.size hrow hF hkeep
 have hB:Below b w w':=⟨h3.os,h3.tape,h3.output,h3.size,fun q hq=>h3.block q (Nat.lt_of_lt_of_le hq H.base) fun he=>by
  have:=(H.lo i _ hi q (Cw hP he.symm).1).1
  omega⟩
 unfold Fx at hc
 split at hc
 ·rename_i ops i' r k'
  split at hc
  ·rename_i o' ho'
   split at hc
   ·rename_i hw
    obtain rfl:=Option.some.inj hc
    refine FZ ho' (by rw [FE]; exact hw) ?_
    unfold Oper.wp execOp
    rw [Db]
    simp only [ho,resolve,invoke,builtin,Sem.run_bind,Sem.run_pure,Result.andThen_ok,List.map_toArray,List.map_cons,List.map_nil,hs,hx,hr]
    show wpOps P ops _ r ((Fr k E).put o'.dst (.slice (some ⟨g',0,none⟩) (l.length + 1) c')) w'
    rw [EJ]
    have:=hk _ _ w' H' hB
    rw [List.length_append,List.length_singleton] at this
    exact this
   ·cases hc
  ·cases hc
 ·cases hc
end
end Go.Proofs.YtkjbdagicjbjjaaGreat
namespace Go.Proofs.YtkjbdagicjbjjaaGreat
open Go.RowKit
set_option maxRecDepth 100000
abbrev FV (n:Nat):List Value:=[AI (n:Int)]
abbrev jr (p:Int×Int):List Value:=[AI p.1,AI p.2]
abbrev rowsNat:=CU 1 FV
abbrev BN (A:Option Addr) (c:Nat) (l:List Nat):Th:=Th.row 3 1 (fun e r=>r=FV e) A c l
abbrev Gh (A:Option Addr) (c:Nat) (l:List (List UInt8)):Th:=Th.row 9 1 (fun e r=>r=JC e) A c l
abbrev Kg (A:Option Addr) (c:Nat) (l:List (Int×Int)):Th:=Th.row 106 2 (fun e r=>r=jr e) A c l
abbrev FL (w:World) (A:Option Addr) (c:Nat) (l:List Ex):Th:=Th.row 53 10 (Cz Ca w) A c l
abbrev Co (w:World) (A:Option Addr) (c:Nat) (l:List Df):Th:=Th.row 59 21 (FC Ca w) A c l
theorem VS {w:World}:∀ {l:List Ex} {rs:List (List Value)},EF (Cz Ca w) l rs→Eu Ca w l rs
 | [],[],_=>by unfold Eu; rfl
 | [],_ :: _,h=>h.elim
 | _ :: _,[],h=>h.elim
 | _ :: _,_ :: _,h=>by unfold Eu; exact ⟨_,_,rfl,h.1,VS h.2⟩
theorem VT {w:World}:∀ {l:List Df} {rs:List (List Value)},EF (FC Ca w) l rs→Ev Ca w l rs
 | [],[],_=>by unfold Ev; rfl
 | [],_ :: _,h=>h.elim
 | _ :: _,[],h=>h.elim
 | _ :: _,_ :: _,h=>by unfold Ev; exact ⟨_,_,rfl,h.1,VT h.2⟩
theorem V1 {w:World} {e:Ex} {A:Option Addr} {c:Nat} (h:rowsEx w A e.ks):Cz Ca w e (AW e A c):=by
 obtain ⟨ks,a,h2⟩:=h
 cases e with
 | mk a1 a2 a3 a4 a5 a6 a7 a8 a9 kids=>
  unfold Cz
  exact ⟨A,c,ks,rfl,a,h2⟩
theorem Xd {w:World} {e:Ex} {r:List Value} (h:Cz Ca w e r):r.length=10:=by
 cases e with
 | mk a1 a2 a3 a4 a5 a6 a7 a8 a9 kids=>
  unfold Cz at h
  obtain ⟨A,c,ks,rfl,_⟩:=h
  rfl
theorem kK {w:World} {e:Ex} {r:List Value} (h:Cz Ca w e r):∃ A c,r=AW e A c∧rowsEx w A e.ks:=by
 cases e with
 | mk a1 a2 a3 a4 a5 a6 a7 a8 a9 kids=>
  unfold Cz at h
  obtain ⟨A,c,ks,rfl,a,h2⟩:=h
  exact ⟨A,c,rfl,ks,a,h2⟩
theorem I5 {w:World} {d:Df} {b:Option Addr} {e:Nat} {a:Option Addr} {c:Nat} (f:Cb w b d.ents) (h2:rowsEx w a d.body.ks):FC Ca w d (Be d b e a c):=
 ⟨b,e,AW d.body a c,V1 h2,f,rfl⟩
theorem JY {α:Type} {a:α→List Value→Prop}:∀ {l:List α} {rs:List (List Value)} {i:Nat} {e:α},EF a l rs→l[i]?=some e→∃ r,rs[i]?=some r∧a e r
 | [],_,_,_,_,hi=>by simp at hi
 | _ :: _,[],_,_,h,_=>h.elim
 | _ :: _,r :: _,0,_,h,hi=>by simp at hi; subst hi; exact ⟨r,rfl,h.1⟩
 | _ :: _,_ :: _,i + 1,_,h,hi=>by simpa using JY h.2 (by simpa using hi)
section
variable {b:Nat} {w w0:World} {L:List Th} {A:Option Addr} {c:Nat}
theorem Ac.rowAt {α:Type} {T:TypeId} {n:Nat} {a:α→List Value→Prop} {l:List α} (h:Ac b w L) (i:Nat) (hi:L[i]?=some (Th.row T n a A c l)) (e:0 < l.length):∃ g,A=IN g∧g < w.heap.size:=by
 obtain ⟨rs,hr,ho⟩:(Th.row T n a A c l).P w:=h.all i _ hi
 rcases ho.2 with ⟨d,j⟩ | ⟨g,cap,f,d,_,hg,_⟩
 ·omega
 ·cases d
  exact ⟨g,rfl,LN hg⟩
theorem Ac.rowsNat {l:List Nat} (h:Ac b w L) (i:Nat) (hi:L[i]?=some (BN A c l)):rowsNat w A l:=h.rowsF (fun _=>rfl) i hi
theorem Ac.rowsStr {l:List (List UInt8)} (h:Ac b w L) (i:Nat) (hi:L[i]?=some (Gh A c l)):rowsStr w A l:=h.rowsF (fun _=>rfl) i hi
theorem Ac.rowsPb {l:List (Int×Int)} (h:Ac b w L) (i:Nat) (hi:L[i]?=some (Kg A c l)):CU 2 jr w A l:=h.rowsF (fun _=>rfl) i hi
theorem Ac.rowsEx {l:List Ex} (h:Ac b w L) (B:Below w0.heap.size w0 w) (i:Nat) (hi:L[i]?=some (FL w0 A c l)):rowsEx w A l:=by
 obtain ⟨rs,a,h2⟩:=h.rows (fun _ _=>Xd) i hi
 exact ⟨rs,(VS a).below B,h2⟩
theorem Ac.rowsDf {l:List Df} (h:Ac b w L) (B:Below w0.heap.size w0 w) (i:Nat) (hi:L[i]?=some (Co w0 A c l)):rowsDf w A l:=by
 obtain ⟨rs,a,h2⟩:=h.rows (fun _ _ hd=>hd.len) i hi
 exact ⟨rs,(VT a).below B,h2⟩
theorem Ac.cells {α:Type} {T:TypeId} {n:Nat} {a:α→List Value→Prop} {g off:Nat} {l:List α} (hn:∀ e r,a e r→r.length=n) (h:Ac b w L) (i:Nat) (hi:L[i]?=some (Th.row T n a (some ⟨g,off,none⟩) c l)) {k:Nat} {e:α} (he:l[k]?=some e):∃ r,a e r∧w.rangeAt g (off + k * n) r:=by
 obtain ⟨rs,m,h2⟩:=h.rows hn i hi
 obtain ⟨r,hr,f⟩:=JY m he
 obtain ⟨o,d,j,_,hc⟩:=Ld h2 hr
 obtain ⟨rfl,rfl⟩:g=o∧off=d:=by
  simp only [Option.some.injEq,Addr.mk.injEq] at j
  exact ⟨j.1,j.2.1⟩
 exact ⟨r,f,hc⟩
theorem Ac.cellsF {α:Type} {T:TypeId} {n:Nat} {f:α→List Value} {g off:Nat} {l:List α} (hn:∀ e,(f e).length=n) (h:Ac b w L) (i:Nat) (hi:L[i]?=some (Th.row T n (fun e r=>r=f e) (some ⟨g,off,none⟩) c l)) {k:Nat} {e:α} (he:l[k]?=some e):w.rangeAt g (off + k * n) (f e):=by
 obtain ⟨r,a,h2⟩:=h.cells (fun e r hr=>hr ▸ hn e) i hi he
 exact a ▸ h2
end
section
variable {b:Nat} {w w':World} {X Y X' Y' Z L:List Th}
end
def BS:Op→Bool
 | .call ⟨.builtin .append,_,_⟩=>true
 | _=>false
end Go.Proofs.YtkjbdagicjbjjaaGreat
namespace Go.Proofs.YtkjbdagicjbjjaaGreat
noncomputable section
open Go.RowKit
set_option maxRecDepth 100000
set_option maxHeartbeats 1000000
attribute [local irreducible] A8 BL AC AD AF Ao AY AL Aq Bb Cn BR BK At Fr
def Ci (ds:List (Df)) (p1:Int):List (Df)→Nat→List Nat→List Nat
 | [],i0,a0_0=>a0_0
 | e0 :: tl,i0,a0_0=>cond (cond (cond (e0.kind == 1) (true) (e0.kind == 5)) (true) (cond (decide (e0.frm≤p1)) (!(DL ds p1 i0)) (false))) (Ci ds p1 tl (i0 + 1) (a0_0++[i0])) (Ci ds p1 tl (i0 + 1) a0_0)
theorem RB {ds:List (Df)} {p1:Int} {b:Nat} {a:List Nat}:Ci ds p1 [] b a=(a):=by rw [Ci]
theorem QP {ds:List (Df)} {p1:Int} {b:List Nat} {es:List (Df)} (a:Nat) (c:Df) (hi:es[a]?=some c):Ci ds p1 (es.drop a) a b=(cond (cond (cond (c.kind == 1) (true) (c.kind == 5)) (true) (cond (decide (c.frm≤p1)) (!(DL ds p1 a)) (false))) (Ci ds p1 (es.drop (a + 1)) (a + 1) (b++[a])) (Ci ds p1 (es.drop (a + 1)) (a + 1) b)):=by
 have hl:a < es.length:=(List.getElem?_eq_some_iff.1 hi).1
 have he:es[a]=c:=(List.getElem?_eq_some_iff.1 hi).2
 rw [← List.getElem_cons_drop hl,Ci] <;> (try rw [he])
def An (ds:List (Df)) (p1:Int):List Nat:=Ci ds p1 ds 0 ([])
noncomputable def lL:Code:=Tryz.f55.body.getD .skip
def dH:=AA 60 ([.code lL])
def dG:=AA 60 (Ao dH)
def yO:=AA (Ak Aa 90 (AD dG)) (AD dG)
def yN:=Ai 5 (AC (AC yO))
def mq:=AA 60 (AL yN)
def yM:=AA (Ak BS 90 (AD mq)) (AD mq)
def ADa:=AA 60 (AF dG)
theorem MC (o:List UInt8) (m:Option Addr) (ds:List (Df)) (a:Nat) (p1:Int) (w:World) (a0:rowsDf w m ds) (b0:ds.length≤4294967296):Calls Tryz.prog 55 ([.agg ⟨[By o,.slice m ds.length a]⟩,AI p1]:List Value).toArray w fun e w'=>∃ (l0:Option Addr) (k0:Nat),e=.returned (.slice l0 ((An ds p1).length) k0)∧Below w.heap.size w w'∧Ac w.heap.size w' [BN l0 k0 (An ds p1)]:=by
 refine AR (fn:=Tryz.f55) (c:=lL) (n:=43) ?_
 have K1:=Wk.start w
 refine Aj dH K1 [(0,1)] fun w1 K2=>?_
 have K3:Wk w w1 [⟨w.heap.size,0,[By o,.slice m ds.length a],27,true⟩] [] []:=K2.pk [0] []
 have K4:=K3.addNil 3 1 (fun e r=>r=FV e)
 have p:(An ds p1)=Ci ds p1 ds 0 ([]):=by unfold An; rfl
 refine AU [(1,AI p1),(2,BY (w.heap.size)),(4,.slice none 0 0),(5,.slice none 0 0),(9,.slice m ds.length a),(10,AI ((ds.length:Int))),(11,AI (((0:Nat):Int)))] fun E2=>?_
 refine Bd (by kernel_rfl) (fun E j0=>∃ (d:Nat) (b:List Nat) (h:Option Addr) (f:Nat) (E0:Nat→Value),d≤ds.length∧E=BC E0 [(1,AI p1),(2,BY (w.heap.size)),(4,.slice none 0 0),(5,.slice h b.length f),(9,.slice m ds.length a),(10,AI ((ds.length:Int))),(11,AI ((d:Int)))]∧(An ds p1)=Ci ds p1 (List.drop d ds) d b∧b.length≤1 * d + 0∧Wk w j0 [⟨w.heap.size,0,[By o,.slice m ds.length a],27,true⟩] [(BN h f b)] []) (fun E _=>ds.length - AK (E 11)) ⟨0,([]),none,0,E2,Nat.zero_le _,rfl,p,by simp,K4⟩ ?_
 clear p
 rintro E j0 ⟨d,b,h,f,E0,n1,rfl,p,x0,K5⟩ q
 refine AB dG K5 [] fun w4 K6=>?_
 refine AG (decide ((d:Int) < (ds.length:Int))) (fun c5=>?_) (fun c5=>?_)
 ·have y:d < ds.length:=by have:=of_decide_eq_true c5; omega
  obtain ⟨i,p0⟩:∃ e,ds[d]?=some e:=⟨_,List.getElem?_eq_getElem y⟩
  rw [QP d i p0] at p
  obtain ⟨j,l,rfl,q0,r0⟩:=a0.all (by omega)
  obtain ⟨x,t,v,s,m0,a1,z0⟩:=r0 d _ p0
  refine Ae Aa yO K6 [] fun w6 K7=>?_
  refine Au (g:=j) (off:=l) (cap:=a) (sz:=21) (k:=d) (len:=ds.length) (some 14) y Tryz.underlying25 ?_
  refine BI 59 j (l + d * 21) [AI i.kind,By (i.name),.bool (i.tb),AI i.tm,AI i.th,AI i.td,AI i.frm,.slice x i.ents.length t,AI i.body.op,AI i.body.num,AI i.body.den,AI i.body.mu,AI i.body.hu,AI i.body.du,By (i.body.nm),AI i.body.cnt,AI i.body.md,.slice v i.body.ks.length s,AI i.mode,AI i.num,AI i.den] (some 15) (Ab m0 q0 K7.B) ?_
  refine Bp 5 yN [⟨w.heap.size,0,[By o,.slice (some ⟨j,l,none⟩) ds.length a],27,true⟩,⟨w6.heap.size,0,(Be i x t v s),59,true⟩] K7 [(1,0)] fun w7 K8=>?_
  refine Ap K8 [(1,1,0),(5,1,0),(10,1,6),(14,0,0)] [⟨17,[(30,.agg ⟨[By o,.slice (some ⟨j,l,none⟩) ds.length a]⟩),(31,AI p1),(32,AI ((d:Int)))],.bool (DL ds p1 d),((decide (i.frm≤p1))) && ((!(cond (i.kind == 1) (true) (i.kind == 5))) && (true))⟩] K8.G (fun sp w0=>?_) fun w8 E8 K9=>?_
  ·rw [List.mem_singleton.1 w0]
   exact AV 81 [.tmp 30,.tmp 31,.tmp 32] [.agg ⟨[By o,.slice (some ⟨j,l,none⟩) ds.length a]⟩,AI p1,AI ((d:Int))] (fun _=>by kernel_rfl) fun hc u hu=>AN hu (VQ _ _ ds _ p1 d u (a0.below (K8.B.trans (hu.mono K8.B.size))) b0 (by omega))
  refine AB mq K9 [] fun w9 s0=>?_
  refine AG (cond (cond (i.kind == 1) (true) (i.kind == 5)) (true) (cond (decide (i.frm≤p1)) (!(DL ds p1 d)) (false))) (fun d0=>?_) (fun d0=>?_)
  ·refine CA BS yM [⟨w.heap.size,0,[By o,.slice (some ⟨j,l,none⟩) ds.length a],27,true⟩,⟨w6.heap.size,0,(Be i x t v s),59,true⟩,⟨w9.heap.size,0,[AI ((d:Int))],3,true⟩] s0 [] fun m1 z=>?_
   refine Cg z.H (z.ix 0) (z.at 0 rfl) d [AI ((d:Int))] rfl (w9.heap.size) (z.ent 2 (by kernel_rfl)) (Br yM) (by kernel_rfl) (.tmp 37) (.tmp 39) 22 (by kernel_rfl) (by kernel_rfl) (by kernel_rfl) (by decide) (by kernel_rfl) (by kernel_rfl) rfl rfl (by ((try simp only [maxLen,List.length_append,List.length_cons,List.length_nil,List.length_singleton]) <;> omega)) fun h0 c0 l1 Hn b1=>?_
   have g1:=z.put 0 (by simp) b1 Hn
   refine AB (AY dH) g1 [] fun v0 f1=>?_
   refine AU [(1,AI p1),(2,BY (w.heap.size)),(4,.slice none 0 0),(5,.slice h0 ((b++[d]).length) c0),(9,.slice (some ⟨j,l,none⟩) ds.length a),(10,AI ((ds.length:Int))),(11,AI (IntKind.i64.wrap ((d:Int) + 1)))] fun i1=>?_
   have e1:Wk w v0 [⟨w.heap.size,0,[By o,.slice (some ⟨j,l,none⟩) ds.length a],27,true⟩] [(BN h0 c0 (b++[d]))] []:=f1.pk [0] [0]
   rw [Bc d (by omega)]
   refine q _ _ ⟨d + 1,(b++[d]),h0,c0,i1,y,rfl,by rw [p,d0] <;> rfl,by ((try simp only [maxLen,List.length_append,List.length_cons,List.length_nil,List.length_singleton]) <;> omega),e1⟩ ?_
   show ds.length - AK (AI ((d + 1:Nat):Int)) < ds.length - AK (AI (d:Int))
   simp only [AK]
   omega
  ·refine AB (AY dH) s0 [] fun t0 d1=>?_
   refine AU [(1,AI p1),(2,BY (w.heap.size)),(4,.slice none 0 0),(5,.slice h b.length f),(9,.slice (some ⟨j,l,none⟩) ds.length a),(10,AI ((ds.length:Int))),(11,AI (IntKind.i64.wrap ((d:Int) + 1)))] fun h1=>?_
   have c1:Wk w t0 [⟨w.heap.size,0,[By o,.slice (some ⟨j,l,none⟩) ds.length a],27,true⟩] [(BN h f b)] []:=d1.pk [0] [0]
   rw [Bc d (by omega)]
   refine q _ _ ⟨d + 1,b,h,f,h1,y,rfl,by rw [p,d0] <;> rfl,by ((try simp only [maxLen,List.length_append,List.length_cons,List.length_nil,List.length_singleton]) <;> omega),c1⟩ ?_
   show ds.length - AK (AI ((d + 1:Nat):Int)) < ds.length - AK (AI (d:Int))
   simp only [AK]
   omega
 ·have n0:d=ds.length:=by have:=of_decide_eq_false c5; omega
  rw [n0,List.drop_length,RB] at p
  refine AB ADa K6 [] fun k1 g0=>?_
  have hS:(An ds p1)=b:=by rw [p] <;> rfl
  exact AJ g0 (0,0) (.slice h b.length f) ⟨h,f,by rw [hS] <;> rfl,g0.B,by rw [hS]; exact g0.own0 [0] rfl (by decide)⟩
end
end Go.Proofs.YtkjbdagicjbjjaaGreat

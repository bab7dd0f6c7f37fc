/- Contracts of functions, part 16. -/
import Derived.Test.YtkjbdagicjbjjaaGreatTs09
import Derived.Test.YtkjbdagicjbjjaaGreatTs15
import Derived.Test.YtkjbdagicjbjjaaGreatTs06
set_option linter.all false
namespace Go.Proofs.YtkjbdagicjbjjaaGreat
noncomputable section
open Go.RowKit
set_option maxRecDepth 100000
set_option maxHeartbeats 1000000
section
variable {b:Nat} {w w':World} {L L':List Th}
theorem Yf {n:Nat} {xs:List (List Value)} (hn:∀ r∈xs,r.length=n):∀ (i:Nat) (r:List Value),xs[i]?=some r→∀ (j:Nat) u,r[j]?=some u→xs.flatten[i * n + j]?=some u:=by
 induction xs with
 | nil=>intro i e hi; simp at hi
 | cons x xs ih=>
  intro i r hi j u hu
  have hx:x.length=n:=hn x (by simp)
  cases i with
  | zero=>
   simp at hi
   subst hi
   have a:j < x.length:=(List.getElem?_eq_some_iff.1 hu).1
   rw [List.flatten_cons,List.getElem?_append_left (by omega),Nat.zero_mul,Nat.zero_add]
   exact hu
  | succ i=>
   have:=ih (fun r hr=>hn r (by simp [hr])) i r (by simpa using hi) j u hu
   rw [List.flatten_cons,List.getElem?_append_right (by rw [hx,Nat.succ_mul]; omega),hx,show (i + 1) * n + j - n=i * n + j by rw [Nat.succ_mul]; omega]
   exact this
theorem Su {T:TypeId} {n:Nat} {A:Option Addr} {m c:Nat} {rs:List (List Value)} (hm:rs.length=m) (hn:∀ r∈rs,r.length=n) (ho:w.ownsRow 0 T n (τ A m c) m rs.flatten):DH CN w n A rs:=by
 rcases ho.2 with ⟨a,e⟩ | ⟨g,cap,b,a,hb,hg,hc,d,hs,ht⟩
 ·have:rs=[]:=List.eq_nil_of_length_eq_zero (hm.trans e)
  subst this
  cases a
  exact .inl rfl
 cases a
 refine .inr ⟨g,0,rfl,trivial,(Array.getElem?_eq_some_iff.1 hg).1,fun i r hi j u hu=>?_⟩
 have a:=Yf hn i r hi j u hu
 rw [← ht,List.getElem?_take] at a
 split at a
 ·have h2:b[i * n + j]?=some u:=by rw [← Array.getElem?_toList]; exact a
  rw [show (0 + i * n + j)=i * n + j by omega]
  simp [World.cell?,hg,h2]
 cases a
theorem Aj.rows {α:Type} {T:TypeId} {n:Nat} {a:α→List Value→Prop} {A:Option Addr} {c:Nat} {l:List α} (hn:∀ e r,a e r→r.length=n) (h:Aj b w L) (i:Nat) (hi:L[i]?=some (Th.row T n a A c l)):∃ rs,ET a l rs∧DH CN w n A rs:=by
 obtain ⟨rs,hr,ho⟩:(Th.row T n a A c l).P w:=h.all i _ hi
 exact ⟨rs,hr,Su (Hf hr) (LK hn hr) ho⟩
theorem Aj.rowsF {α:Type} {T:TypeId} {n:Nat} {f:α→List Value} {A:Option Addr} {c:Nat} {l:List α} (hn:∀ e,(f e).length=n) (h:Aj b w L) (i:Nat) (hi:L[i]?=some (Th.row T n (fun e r=>r=f e) A c l)):Cl n f w A l:=by
 obtain ⟨rs,hr,hs⟩:=h.rows (fun e r hr=>hr ▸ hn e) i hi
 rw [IU hr] at hs
 exact hs
end
section
variable {P:Program} {fi:FuncId} {R:Ending→World→Prop}
theorem Cw {α:Type} {T:TypeId} {n:Nat} {rel:α→List Value→Prop} {b:Nat} {A:Option Addr} {c:Nat} {l:List α} {L:List Th} {w:World} {k:Nat} {td:List Item} {E:Nat→Value} (H:Aj b w L) (i:Nat) (hi:L[i]?=some (Th.row T n rel A c l)) (e:α) (row:List Value) (hrel:rel e row) (g:Nat)
  (hgood:A7.good w ⟨g,0,row,T,true⟩) (o:Oper) (hc:Hx k E td=some o) (s x:Operand) (t:TypeId) (ho:o.op=.call { callee:=.builtin .append,args:=#[s,x],argTypes:=#[t,t] })
  (ht:P.underlying t=some (.slice T)) (hinfo:(P.info? T).map (fun i=>(i.zero.map (·.cells.size),i.size,Nat.ble i.bytes 1024))=some (some n,n,true)) (hsz:0 < n)
  (hs:A8 k E s=.slice A l.length c) (hx:A8 k E x=.slice (some ⟨g,0,none⟩) 1 1) (hn:row.length=n) (h1:row.all (·.oneCell')=true) (hlen:l.length + 1≤100000000000)
  (hk:∀ A' c' w',Aj b w' (L.set i (Th.row T n rel A' c' (l++[e])))→Below b w w'→At P fi R (AC td) (Fr k (Aw E o.dst (.slice A' (l++[e]).length c'))) w'):At P fi R td (Fr k E) w:=by
 obtain ⟨rs,hrs,hP⟩:(Th.row T n rel A c l).P w:=H.all i _ hi
 obtain ⟨inf,hin,z,hz,hzs,hsize,hby⟩:∃ inf,P.info? T=some inf∧∃ z,inf.zero=some z∧z.cells.size=n∧inf.size=n∧inf.bytes≤1024:=by
  cases hi:P.info? T with
  | none=>rw [hi] at hinfo; cases hinfo
  | some inf=>
   rw [hi] at hinfo
   simp only [Option.map_some,Option.some.injEq,Prod.mk.injEq,Option.map_eq_some_iff] at hinfo
   obtain ⟨⟨z,h1,h2⟩,h3,h4⟩:=hinfo
   exact ⟨inf,rfl,z,h1,h2,h3,Nat.le_of_ble_eq_true h4⟩
 have h63:l.length + 1≤maxLen:=by unfold maxLen; omega
 have hbytes:(l.length + 1) * inf.bytes≤140737488355328:=Nat.le_trans (Nat.mul_le_mul hlen hby) (by decide)
 have hnews:∀ j u,row[j]?=some u→w.cell? ((⟨g,0,none⟩:Addr).add j)=some u:=fun j u hu=>by
  have hadd:(⟨g,0,none⟩:Addr).add j=⟨g,j,none⟩:=by
   unfold Addr.add
   split
   ·rename_i hj; rw [hj]
   simp
  rw [hadd]
  exact Ec hgood hu rfl (by show j=0 + j; omega) rfl
 obtain ⟨v',w',hr,h2,h3,_,h5⟩:=run_append_own_at (P:=P) (w:=w) 0 t o.type T inf z n inf.bytes ht hin hz hsize rfl hzs hsz _ _ _ hP ⟨g,0,none⟩ 1 1 row (by rw [hn,Nat.one_mul]) hnews (fun u hu=>List.all_eq_true.1 h1 u hu) h63 hbytes (Nat.zero_le _)
 have hv:∃ g' c',v'=.slice (some ⟨g',0,none⟩) (l.length + 1) c':=by
  rcases h2.2 with ⟨_,h0⟩ | ⟨g',cap,cur,rfl,_⟩
  ·omega
  exact ⟨g',cap,rfl⟩
 obtain ⟨g',c',rfl⟩:=hv
 have hrow:(Th.row T n rel (some ⟨g',0,none⟩) c' (l++[e])).P w':=⟨rs++[row],NX hrel hrs,by
  rw [List.length_append,List.length_singleton,List.flatten_append]
  simpa using h2⟩
 have hF:∀ q,(Th.row T n rel (some ⟨g',0,none⟩) c' (l++[e])).F q→q < w'.heap.size∧((Th.row T n rel A c l).F q∨w.heap.size≤q):=fun q (hq:some (⟨g',0,none⟩:Addr)=some ⟨q,0,none⟩)=>by
  obtain rfl:g'=q:=by injection hq with hq; injection hq
  refine ⟨(Mb h2 (g:=g') rfl).2,?_⟩
  rcases h5 with h5 | h5
  ·exact .inl (Dj hP (h5.symm.trans rfl)).1
  right
  have:g'=w.heap.size:=Option.some.inj (show some g'=some w.heap.size from h5)
  omega
 have hkeep:∀ q,q < w.heap.size→¬ (Th.row T n rel A c l).F q→w'.heap[q]?=w.heap[q]?:=fun q hq hnf=>h3.block q hq fun he=>hnf (Dj hP he.symm).1
 have H':Aj b w' (L.set i (Th.row T n rel (some ⟨g',0,none⟩) c' (l++[e]))):=H.set i hi h3.size hrow hF hkeep
 have hB:Below b w w':=⟨h3.os,h3.tape,h3.output,h3.size,fun q hq=>h3.block q (Nat.lt_of_lt_of_le hq H.base) fun he=>by
  have:=(H.lo i _ hi q (Dj hP he.symm).1).1
  omega⟩
 unfold Hx at hc
 split at hc
 ·rename_i ops i' r k'
  split at hc
  ·rename_i o' ho'
   split at hc
   ·rename_i hw
    obtain rfl:=Option.some.inj hc
    refine Gi ho' (by rw [F1]; exact hw) ?_
    unfold Oper.wp execOp
    rw [D7]
    simp only [ho,resolve,invoke,builtin,Sem.run_bind,Sem.run_pure,Result.andThen_ok,List.map_toArray,List.map_cons,List.map_nil,hs,hx,hr]
    show wpOps P ops _ r ((Fr k E).put o'.dst (.slice (some ⟨g',0,none⟩) (l.length + 1) c')) w'
    rw [El]
    have:=hk _ _ w' H' hB
    rw [List.length_append,List.length_singleton] at this
    exact this
   cases hc
  cases hc
 cases hc
end
abbrev Fw (n:Nat):List Value:=[δ (n:Int)]
abbrev mB (p:Int×Int):List Value:=[δ p.1,δ p.2]
abbrev rowsNat:=Cl 1 Fw
abbrev BS (A:Option Addr) (c:Nat) (l:List Nat):Th:=Th.row 3 1 (fun e r=>r=Fw e) A c l
abbrev HO (A:Option Addr) (c:Nat) (l:List (List UInt8)):Th:=Th.row 9 1 (fun e r=>r=Jj e) A c l
abbrev LX (A:Option Addr) (c:Nat) (l:List (Int×Int)):Th:=Th.row 106 2 (fun e r=>r=mB e) A c l
abbrev Fh (w:World) (A:Option Addr) (c:Nat) (l:List Ex):Th:=Th.row 53 10 (DE CN w) A c l
abbrev C8 (w:World) (A:Option Addr) (c:Nat) (l:List Df):Th:=Th.row 59 21 (Ej CN w) A c l
theorem Wv {w:World}:∀ {l:List Ex} {rs:List (List Value)},ET (DE CN w) l rs→FU CN w l rs
 | [],[],_=>by unfold FU; rfl
 | [],_ :: _,h=>h.elim
 | _ :: _,[],h=>h.elim
 | _ :: _,_ :: _,h=>by unfold FU; exact ⟨_,_,rfl,h.1,Wv h.2⟩
theorem Ww {w:World}:∀ {l:List Df} {rs:List (List Value)},ET (Ej CN w) l rs→EY CN w l rs
 | [],[],_=>by unfold EY; rfl
 | [],_ :: _,h=>h.elim
 | _ :: _,[],h=>h.elim
 | _ :: _,_ :: _,h=>by unfold EY; exact ⟨_,_,rfl,h.1,Ww h.2⟩
theorem Xa {w:World} {e:Ex} {A:Option Addr} {c:Nat} (h:rowsEx w A e.ks):DE CN w e (AX e A c):=by
 obtain ⟨ks,a,h2⟩:=h
 cases e with
 | mk a1 a2 a3 a4 a5 a6 a7 a8 a9 kids=>
  unfold DE
  exact ⟨A,c,ks,rfl,a,h2⟩
theorem ZI {w:World} {e:Ex} {r:List Value} (h:DE CN w e r):r.length=10:=by
 cases e with
 | mk a1 a2 a3 a4 a5 a6 a7 a8 a9 kids=>
  unfold DE at h
  obtain ⟨A,c,ks,rfl,_⟩:=h
  rfl
theorem mg {w:World} {e:Ex} {r:List Value} (h:DE CN w e r):∃ A c,r=AX e A c∧rowsEx w A e.ks:=by
 cases e with
 | mk a1 a2 a3 a4 a5 a6 a7 a8 a9 kids=>
  unfold DE at h
  obtain ⟨A,c,ks,rfl,a,h2⟩:=h
  exact ⟨A,c,rfl,ks,a,h2⟩
theorem Je {w:World} {d:Df} {b:Option Addr} {e:Nat} {a:Option Addr} {c:Nat} (f:Cs w b d.ents) (h2:rowsEx w a d.body.ks):Ej CN w d (Bg d b e a c):=
 ⟨b,e,AX d.body a c,Xa h2,f,rfl⟩
theorem OP {α:Type} {a:α→List Value→Prop}:∀ {l:List α} {rs:List (List Value)} {i:Nat} {e:α},ET a l rs→l[i]?=some e→∃ r,rs[i]?=some r∧a e r
 | [],_,_,_,_,hi=>by simp at hi
 | _ :: _,[],_,_,h,_=>h.elim
 | _ :: _,r :: _,0,_,h,hi=>by simp at hi; subst hi; exact ⟨r,rfl,h.1⟩
 | _ :: _,_ :: _,i + 1,_,h,hi=>by simpa using OP h.2 (by simpa using hi)
section
variable {b:Nat} {w w0:World} {L:List Th} {A:Option Addr} {c:Nat}
theorem Aj.rowAt {α:Type} {T:TypeId} {n:Nat} {a:α→List Value→Prop} {l:List α} (h:Aj b w L) (i:Nat) (hi:L[i]?=some (Th.row T n a A c l)) (e:0 < l.length):∃ g,A=θ g∧g < (ε w):=by
 obtain ⟨rs,hr,ho⟩:(Th.row T n a A c l).P w:=h.all i _ hi
 rcases ho.2 with ⟨d,j⟩ | ⟨g,cap,f,d,_,hg,_⟩
 ·omega
 cases d
 exact ⟨g,rfl,L3 hg⟩
theorem Aj.rowsNat {l:List Nat} (h:Aj b w L) (i:Nat) (hi:L[i]?=some (BS A c l)):rowsNat w A l:=h.rowsF (fun _=>rfl) i hi
theorem Aj.rowsStr {l:List (List UInt8)} (h:Aj b w L) (i:Nat) (hi:L[i]?=some (HO A c l)):rowsStr w A l:=h.rowsF (fun _=>rfl) i hi
theorem Aj.rowsPb {l:List (Int×Int)} (h:Aj b w L) (i:Nat) (hi:L[i]?=some (LX A c l)):Cl 2 mB w A l:=h.rowsF (fun _=>rfl) i hi
theorem Aj.rowsEx {l:List Ex} (h:Aj b w L) (B:Below (ε w0) w0 w) (i:Nat) (hi:L[i]?=some (Fh w0 A c l)):rowsEx w A l:=by
 obtain ⟨rs,a,h2⟩:=h.rows (fun _ _=>ZI) i hi
 exact ⟨rs,(Wv a).below B,h2⟩
theorem Aj.rowsDf {l:List Df} (h:Aj b w L) (B:Below (ε w0) w0 w) (i:Nat) (hi:L[i]?=some (C8 w0 A c l)):rowsDf w A l:=by
 obtain ⟨rs,a,h2⟩:=h.rows (fun _ _ hd=>hd.len) i hi
 exact ⟨rs,(Ww a).below B,h2⟩
theorem Aj.cells {α:Type} {T:TypeId} {n:Nat} {a:α→List Value→Prop} {g off:Nat} {l:List α} (hn:∀ e r,a e r→r.length=n) (h:Aj b w L) (i:Nat) (hi:L[i]?=some (Th.row T n a (some ⟨g,off,none⟩) c l)) {k:Nat} {e:α} (he:l[k]?=some e):∃ r,a e r∧w.rangeAt g (off + k * n) r:=by
 obtain ⟨rs,m,h2⟩:=h.rows hn i hi
 obtain ⟨r,hr,f⟩:=OP m he
 obtain ⟨o,d,j,_,hc⟩:=MV h2 hr
 obtain ⟨rfl,rfl⟩:g=o∧off=d:=by
  simp only [Option.some.injEq,Addr.mk.injEq] at j
  exact ⟨j.1,j.2.1⟩
 exact ⟨r,f,hc⟩
theorem Aj.cellsF {α:Type} {T:TypeId} {n:Nat} {f:α→List Value} {g off:Nat} {l:List α} (hn:∀ e,(f e).length=n) (h:Aj b w L) (i:Nat) (hi:L[i]?=some (Th.row T n (fun e r=>r=f e) (some ⟨g,off,none⟩) c l)) {k:Nat} {e:α} (he:l[k]?=some e):w.rangeAt g (off + k * n) (f e):=by
 obtain ⟨r,a,h2⟩:=h.cells (fun e r hr=>hr ▸ hn e) i hi he
 exact a ▸ h2
end
section
variable {b:Nat} {w w':World} {X Y X' Y' Z L:List Th}
end
def Bp:Op→Bool
 | .call ⟨.builtin .append,_,_⟩=>true
 | _=>false
attribute [local irreducible] BD BP AC AD AF Ar AZ AM Aw Bk C6 BV BO At Fr
def Ck (ds:List (Df)) (p1:Int):List (Df)→Nat→List Nat→List Nat
 | [],i0,a0_0=>a0_0
 | e0 :: tl,i0,a0_0=>cond (cond (cond (e0.kind == 1) (true) (e0.kind == 5)) (true) (cond (decide (e0.frm≤p1)) (!(Cr ds p1 i0)) (false))) (Ck ds p1 tl (i0 + 1) (a0_0++[i0])) (Ck ds p1 tl (i0 + 1) a0_0)
theorem SX {ds:List (Df)} {p1:Int} {b:Nat} {a:List Nat}:Ck ds p1 [] b a=(a):=by rw [Ck]
theorem Rl {ds:List (Df)} {p1:Int} {b:List Nat} {es:List (Df)} (a:Nat) (c:Df) (hi:es[a]?=some c):Ck ds p1 (es.drop a) a b=(cond (cond (cond (c.kind == 1) (true) (c.kind == 5)) (true) (cond (decide (c.frm≤p1)) (!(Cr ds p1 a)) (false))) (Ck ds p1 (es.drop (a + 1)) (a + 1) (b++[a])) (Ck ds p1 (es.drop (a + 1)) (a + 1) b)):=by
 have hl:a < es.length:=(List.getElem?_eq_some_iff.1 hi).1
 have he:es[a]=c:=(List.getElem?_eq_some_iff.1 hi).2
 rw [← List.getElem_cons_drop hl,Ck] <;> (try rw [he])
def Aa (ds:List (Df)) (p1:Int):List Nat:=Ck ds p1 ds 0 ([])
noncomputable def nr:Code:=Tryz.f55.body.getD .skip
def fP:=ν ([.code nr])
def fO:=ν (Ar fP)
def AA2:=AA (An Ae 90 (AD fO)) (AD fO)
def AA1:=Al 5 (AC (AC AA2))
def pV:=AI AA1
def AA0:=AA (An Bp 90 (AD pV)) (AD pV)
def AGA:=Ψ fO
theorem M5 (m:List UInt8) (l:Option Addr) (ds:List (Df)) (a:Nat) (p1:Int) (w:World) (a0:rowsDf w l ds) (b0:ds.length≤4294967296):Calls Tryz.prog 55 ([ψ [η m,τ l ds.length a],δ p1]:List Value).toArray w fun e w'=>∃ (l0:Option Addr) (k0:Nat),e=.returned (τ l0 ((Aa ds p1).length) k0)∧Below (ε w) w w'∧Aj (ε w) w' [BS l0 k0 (Aa ds p1)]:=by
 refine AS (fn:=Tryz.f55) (c:=nr) (n:=43) ?_
 have K1:=Wk.start w
 refine Am fP K1 [(0,1)] fun w1 K2=>?_
 have K3:Wk w w1 [ι (ε w) [η m,τ l ds.length a] 27] [] []:=K2.pk [0] []
 have K4:=K3.addNil 3 1 (fun e r=>r=Fw e)
 have o:(Aa ds p1)=Ck ds p1 ds 0 ([]):=by unfold Aa; rfl
 refine AU [(1,δ p1),(2,ζ (ε w)),(4,τ none 0 0),(5,τ none 0 0),(9,τ l ds.length a),(10,δ ((ds.length:Int))),(11,δ (((0:Nat):Int)))] fun E2=>?_
 refine Bo (by kernel_rfl) (fun E j0=>∃ (d:Nat) (b:List Nat) (h:Option Addr) (f:Nat) (E0:Nat→Value),d≤ds.length∧E=BE E0 [(1,δ p1),(2,ζ (ε w)),(4,τ none 0 0),(5,τ h b.length f),(9,τ l ds.length a),(10,δ ((ds.length:Int))),(11,δ ((d:Int)))]∧(Aa ds p1)=Ck ds p1 (List.drop d ds) d b∧b.length≤1 * d + 0∧Wk w j0 [ι (ε w) [η m,τ l ds.length a] 27] [(BS h f b)] []) (fun E _=>ds.length - AL (E 11)) ⟨0,([]),none,0,E2,Nat.zero_le _,rfl,o,by simp,K4⟩ ?_
 clear o
 rintro E j0 ⟨d,b,h,f,E0,o1,rfl,o,z0,K5⟩ p
 refine AB fO K5 [] fun w4 K6=>?_
 refine AG (decide ((d:Int) < (ds.length:Int))) (fun c5=>?_) (fun c5=>?_)
 ·have q:d < ds.length:=by have:=of_decide_eq_true c5; omega
  obtain ⟨z,q0⟩:∃ e,ds[d]?=some e:=⟨_,List.getElem?_eq_getElem q⟩
  rw [Rl d z q0] at o
  obtain ⟨i,j,rfl,r0,s0⟩:=a0.all (by omega)
  obtain ⟨x,t,v,s,m0,b1,a1⟩:=s0 d _ q0
  refine Ak Ae AA2 K6 [] fun w6 K7=>?_
  refine Ay (g:=i) (off:=j) (cap:=a) (sz:=21) (k:=d) (len:=ds.length) (some 14) q Tryz.underlying25 ?_
  refine BN 59 i (j + d * 21) _ (some 15) (Ag m0 r0 K7.B) ?_
  refine CC 5 AA1 [ι (ε w) [η m,τ (some ⟨i,j,none⟩) ds.length a] 27,ι (ε w6) ((Bg z x t v s)) 59] K7 [(1,0)] fun w7 K8=>?_
  refine Av K8 [(1,1,0),(5,1,0),(10,1,6),(14,0,0)] [⟨17,[(30,ψ [η m,τ (some ⟨i,j,none⟩) ds.length a]),(31,δ p1),(32,δ ((d:Int)))],ξ (Cr ds p1 d),((decide (z.frm≤p1))) && ((!(cond (z.kind == 1) (true) (z.kind == 5))) && (true))⟩] K8.G (fun sp x0=>?_) fun w8 E8 K9=>?_
  ·rw [List.mem_singleton.1 x0]
   exact AY 81 [.tmp 30,.tmp 31,.tmp 32] [ψ [η m,τ (some ⟨i,j,none⟩) ds.length a],δ p1,δ ((d:Int))] (fun _=>by kernel_rfl) fun hc u hu=>AQ hu (Wq _ _ ds _ p1 d u (a0.below (K8.B.trans (hu.mono K8.B.size))) b0 (by omega))
  refine AB pV K9 [] fun w9 t0=>?_
  refine AG (cond (cond (z.kind == 1) (true) (z.kind == 5)) (true) (cond (decide (z.frm≤p1)) (!(Cr ds p1 d)) (false))) (fun d0=>?_) (fun d0=>?_)
  ·refine CY Bp AA0 [ι (ε w) [η m,τ (some ⟨i,j,none⟩) ds.length a] 27,ι (ε w6) ((Bg z x t v s)) 59,ι (ε w9) [δ ((d:Int))] 3] t0 [] fun n1 y=>?_
   refine Cw y.H (y.ix 0) (y.at 0 rfl) d [δ ((d:Int))] rfl (ε w9) (y.ent 2 (by kernel_rfl)) (CL AA0) (by kernel_rfl) (.tmp 37) (.tmp 39) 22 (by kernel_rfl) (by kernel_rfl) (by kernel_rfl) (by decide) (by kernel_rfl) (by kernel_rfl) rfl rfl (by ((try simp only [maxLen,List.length_append,List.length_cons,List.length_nil,List.length_singleton]) <;> omega)) fun h0 c0 m1 Hn c1=>?_
   have h1:=y.put 0 (by simp) c1 Hn
   refine AB (AZ fP) h1 [] fun w0 g1=>?_
   refine AU [(1,δ p1),(2,ζ (ε w)),(4,τ none 0 0),(5,τ h0 ((b++[d]).length) c0),(9,τ (some ⟨i,j,none⟩) ds.length a),(10,δ ((ds.length:Int))),(11,δ (IntKind.i64.wrap ((d:Int) + 1)))] fun k1=>?_
   have f1:Wk w w0 [ι (ε w) [η m,τ (some ⟨i,j,none⟩) ds.length a] 27] [(BS h0 c0 (b++[d]))] []:=g1.pk [0] [0]
   rw [Bl d (by omega)]
   refine p _ _ ⟨d + 1,(b++[d]),h0,c0,k1,q,rfl,by rw [o,d0] <;> rfl,by ((try simp only [maxLen,List.length_append,List.length_cons,List.length_nil,List.length_singleton]) <;> omega),f1⟩ ?_
   show ds.length - AL (δ ((d + 1:Nat):Int)) < ds.length - AL (δ (d:Int))
   simp only [AL]
   omega
  refine AB (AZ fP) t0 [] fun v0 e1=>?_
  refine AU [(1,δ p1),(2,ζ (ε w)),(4,τ none 0 0),(5,τ h b.length f),(9,τ (some ⟨i,j,none⟩) ds.length a),(10,δ ((ds.length:Int))),(11,δ (IntKind.i64.wrap ((d:Int) + 1)))] fun i1=>?_
  have d1:Wk w v0 [ι (ε w) [η m,τ (some ⟨i,j,none⟩) ds.length a] 27] [(BS h f b)] []:=e1.pk [0] [0]
  rw [Bl d (by omega)]
  refine p _ _ ⟨d + 1,b,h,f,i1,q,rfl,by rw [o,d0] <;> rfl,by ((try simp only [maxLen,List.length_append,List.length_cons,List.length_nil,List.length_singleton]) <;> omega),d1⟩ ?_
  show ds.length - AL (δ ((d + 1:Nat):Int)) < ds.length - AL (δ (d:Int))
  simp only [AL]
  omega
 have p0:d=ds.length:=by have:=of_decide_eq_false c5; omega
 rw [p0,List.drop_length,SX] at o
 refine AB AGA K6 [] fun l1 g0=>?_
 have hS:(Aa ds p1)=b:=by rw [o] <;> rfl
 exact AK g0 (0,0) (τ h b.length f) ⟨h,f,by rw [hS] <;> rfl,g0.B,by rw [hS]; exact g0.own0 [0] rfl (by decide)⟩
def CP (ds:List (Df)) (x:Ex):List (Nat)→Int→Bool→Nat×Bool
 | [],a2_0,a2_1=>(0,false)
 | e2 :: tl,a2_0,a2_1=>cond (cond (cond (cond (x.op == 3) (Ac (ds.getD e2 default)) (false)) (true) (cond (x.op == 4) ((ds.getD e2 default).kind == 2) (false))) (decide ((ds.getD e2 default).name=x.nm)) (false)) ((e2,true)) (CP ds x tl a2_0 a2_1)
theorem RD {ds:List (Df)} {x:Ex} {b:Int} {a:Bool}:CP ds x [] b a=((0,false)):=by rw [CP]
theorem Pe {ds:List (Df)} {x:Ex} {b:Int} {a:Bool} {es:List (Nat)} (i c:Nat) (hi:es[i]?=some c):CP ds x (es.drop i) b a=(cond (cond (cond (cond (x.op == 3) (Ac (κ ds c)) (false)) (true) (cond (x.op == 4) ((κ ds c).kind == 2) (false))) (decide ((κ ds c).name=x.nm)) (false)) ((c,true)) (CP ds x (es.drop (i + 1)) b a)):=by
 have hl:i < es.length:=(List.getElem?_eq_some_iff.1 hi).1
 have he:es[i]=c:=(List.getElem?_eq_some_iff.1 hi).2
 rw [← List.getElem_cons_drop hl,CP] <;> (try rw [he])
def Bw (ds:List (Df)) (x:Ex):List (Nat)→Int→Bool→Nat×Bool
 | [],a1_0,a1_1=>(0,false)
 | e1 :: tl,a1_0,a1_1=>cond (cond (cond (cond (x.op == 3) (Ac (ds.getD e1 default)) (false)) (true) (cond (x.op == 4) ((ds.getD e1 default).kind == 2) (false))) (decide ((ds.getD e1 default).name=x.nm)) (false)) ((e1,true)) (Bw ds x tl a1_0 a1_1)
theorem RE {ds:List (Df)} {x:Ex} {b:Int} {a:Bool}:Bw ds x [] b a=((0,false)):=by rw [Bw]
theorem Pf {ds:List (Df)} {x:Ex} {b:Int} {a:Bool} {es:List (Nat)} (i c:Nat) (hi:es[i]?=some c):Bw ds x (es.drop i) b a=(cond (cond (cond (cond (x.op == 3) (Ac (κ ds c)) (false)) (true) (cond (x.op == 4) ((κ ds c).kind == 2) (false))) (decide ((κ ds c).name=x.nm)) (false)) ((c,true)) (Bw ds x (es.drop (i + 1)) b a)):=by
 have hl:i < es.length:=(List.getElem?_eq_some_iff.1 hi).1
 have he:es[i]=c:=(List.getElem?_eq_some_iff.1 hi).2
 rw [← List.getElem_cons_drop hl,Bw] <;> (try rw [he])
def Bf (ds:List (Df)) (act:List (Nat)) (x:Ex):List (Df)→Nat→Int→Bool→Nat×Bool
 | [],i0,a0_0,a0_1=>Bw ds x act a0_0 a0_1
 | e0 :: tl,i0,a0_0,a0_1=>cond (cond (e0.kind == 1) (decide (e0.name=x.nm)) (false)) ((i0,true)) (Bf ds act x tl (i0 + 1) a0_0 a0_1)
theorem RF {ds:List (Df)} {act:List (Nat)} {x:Ex} {c:Nat} {b:Int} {a:Bool}:Bf ds act x [] c b a=(Bw ds x act b a):=by rw [Bf]
theorem Pg {ds:List (Df)} {act:List (Nat)} {x:Ex} {c:Int} {b:Bool} {es:List (Df)} (a:Nat) (d:Df) (hi:es[a]?=some d):Bf ds act x (es.drop a) a c b=(cond (cond (d.kind == 1) (decide (d.name=x.nm)) (false)) ((a,true)) (Bf ds act x (es.drop (a + 1)) (a + 1) c b)):=by
 have hl:a < es.length:=(List.getElem?_eq_some_iff.1 hi).1
 have he:es[a]=d:=(List.getElem?_eq_some_iff.1 hi).2
 rw [← List.getElem_cons_drop hl,Bf] <;> (try rw [he])
def Aq (ds:List (Df)) (act:List (Nat)) (x:Ex):Nat×Bool:=cond (x.op == 3) (Bf ds act x ds 0 0 false) (CP ds x act 0 false)
noncomputable def nj:Code:=Tryz.f84.body.getD .skip
def pS:=ν ([.code nj])
def pR:=Ξ pS
def fK:=ν (Ar pR)
def AAw:=AA (An Ae 90 (AD fK)) (AD fK)
def AAv:=Al 5 (AC (AC AAw))
def AAu:=AI AAv
def AF5:=Ξ AAu
def pQ:=Ψ fK
def fJ:=ν (Ar pQ)
def pP:=AA (An Ae 90 (AD fJ)) (AD fJ)
def u9:=AA (An Ae 90 (AC (AC pP))) (AC (AC pP))
def u7:=Al 12 (AC (AC u9))
def u6:=Al 13 (AM u7)
def u4:=AI u6
def AEa:=Ξ u4
def AEZ:=Ψ fJ
def fM:=Ψ pS
def UH:=ν (Ar fM)
def fL:=AA (An Ae 90 (AD UH)) (AD UH)
def u3:=AA (An Ae 90 (AC (AC fL))) (AC (AC fL))
def u0:=Al 12 (AC (AC u3))
def uz:=Al 13 (AM u0)
def uy:=AI uz
def AEY:=Ξ uy
def AEX:=Ψ UH
theorem Ya (o:List UInt8) (f:Option Addr) (ds:List (Df)) (a:Nat) (a0:Option Addr) (act:List (Nat)) (t:Nat) (x:Ex) (b:Option Addr) (d:Nat) (w:World) (m1:rowsDf w f ds) (p3:ds.length≤4294967296) (n1:rowsNat w a0 act) (g3:act.length≤4294967296) (b5:rowsEx w b x.ks) (w0:∀ i∈act,i < ds.length):Calls Tryz.prog 84 ([ψ [η o,τ f ds.length a],τ a0 act.length t,ψ ((Γ x b d))]:List Value).toArray w fun e w'=>e=.returned (.tuple #[δ ((((Aq ds act x)).1:Int)),ξ (((Aq ds act x)).2)])∧Below (ε w) w w':=by
 refine AS (fn:=Tryz.f84) (c:=nj) (n:=75) ?_
 have K1:=Wk.start w
 refine Am pS K1 [(1,0)] fun w1 K2=>?_
 refine AG (x.op == 3) (fun c2=>?_) (fun c2=>?_)
 ·refine AB pR K2 [(0,1)] fun w3 K3=>?_
  have K4:Wk w w3 [ι (ε w) [η o,τ f ds.length a] 27,ι (ε w + 1) ((AX x b d)) 53] [] []:=K3.pk [0,1] []
  have j0:(Aq ds act x)=Bf ds act x ds 0 0 false:=by unfold Aq; rw [c2] <;> rfl
  refine AU [(1,τ a0 act.length t),(3,ζ (ε w)),(5,ζ (ε w + 1)),(6,δ 0),(7,ξ false),(18,τ f ds.length a),(19,δ ((ds.length:Int))),(20,δ (((0:Nat):Int)))] fun E4=>?_
  refine Bo (by kernel_rfl) (fun E h2=>∃ (v:Nat) (s:Int) (r:Bool) (E0:Nat→Value),v≤ds.length∧E=BE E0 [(1,τ a0 act.length t),(3,ζ (ε w)),(5,ζ (ε w + 1)),(6,δ s),(7,ξ r),(18,τ f ds.length a),(19,δ ((ds.length:Int))),(20,δ ((v:Int)))]∧(Aq ds act x)=Bf ds act x (List.drop v ds) v s r∧Wk w h2 [ι (ε w) [η o,τ f ds.length a] 27,ι (ε w + 1) ((AX x b d)) 53] [] []) (fun E _=>ds.length - AL (E 20)) ⟨0,0,false,E4,Nat.zero_le _,rfl,j0,K4⟩ ?_
  clear j0
  rintro E h2 ⟨v,s,r,E0,x6,rfl,j0,K5⟩ l1
  refine AB fK K5 [] fun w6 K6=>?_
  refine AG (decide ((v:Int) < (ds.length:Int))) (fun c7=>?_) (fun c7=>?_)
  ·have d1:v < ds.length:=by have:=of_decide_eq_true c7; omega
   obtain ⟨e0,n2⟩:∃ e,ds[v]?=some e:=⟨_,List.getElem?_eq_getElem d1⟩
   rw [Pg v e0 n2] at j0
   obtain ⟨p,q,rfl,l0,m0⟩:=m1.all (by omega)
   obtain ⟨b2,s1,a2,r1,k0,r3,q3⟩:=m0 v _ n2
   refine Ak Ae AAw K6 [] fun w8 K7=>?_
   refine Ay (g:=p) (off:=q) (cap:=a) (sz:=21) (k:=v) (len:=ds.length) (some 23) d1 Tryz.underlying25 ?_
   refine BN 59 p (q + v * 21) _ (some 24) (Ag k0 l0 K7.B) ?_
   refine CC 5 AAv [ι (ε w) [η o,τ (some ⟨p,q,none⟩) ds.length a] 27,ι (ε w + 1) ((AX x b d)) 53,ι (ε w8) ((Bg e0 b2 s1 a2 r1)) 59] K7 [(2,0)] fun w9 K8=>?_
   refine Av K8 [(1,2,0),(5,2,1),(7,1,6)] [⟨8,[(30,η (e0.name)),(32,η (x.nm))],ξ (decide (e0.name=x.nm)),((e0.kind == 1)) && (true)⟩] K8.G (fun sp b0=>?_) fun q6 k7 K9=>?_
   ·rw [List.mem_singleton.1 b0]
    exact BQ fun _ E u _=>Hl (T:=9) (T':=9) (x:=.tmp 30) (y:=.tmp 32)
   refine AB AAu K9 [] fun m6 f3=>?_
   refine AG (cond (e0.kind == 1) (decide (e0.name=x.nm)) (false)) (fun z1=>?_) (fun z1=>?_)
   ·refine AB AF5 f3 [] fun k6 e3=>?_
    have hS:(Aq ds act x)=(v,true):=by rw [j0,z1] <;> rfl
    exact AK e3 (0,0) (.tuple #[δ ((v:Int)),ξ true]) ⟨by rw [hS] <;> rfl,e3.B⟩
   refine AB (AZ pR) f3 [] fun o3 t4=>?_
   refine AU [(1,τ a0 act.length t),(3,ζ (ε w)),(5,ζ (ε w + 1)),(6,δ s),(7,ξ r),(18,τ (some ⟨p,q,none⟩) ds.length a),(19,δ ((ds.length:Int))),(20,δ (IntKind.i64.wrap ((v:Int) + 1)))] fun a5=>?_
   have q4:Wk w o3 [ι (ε w) [η o,τ (some ⟨p,q,none⟩) ds.length a] 27,ι (ε w + 1) ((AX x b d)) 53] [] []:=t4.pk [0,1] []
   rw [Bl v (by omega)]
   refine l1 _ _ ⟨v + 1,s,r,a5,d1,rfl,by rw [j0,z1] <;> rfl,q4⟩ ?_
   show ds.length - AL (δ ((v + 1:Nat):Int)) < ds.length - AL (δ (v:Int))
   simp only [AL]
   omega
  have m2:v=ds.length:=by have:=of_decide_eq_false c7; omega
  rw [m2,List.drop_length,RF] at j0
  refine AB pQ K6 [] fun n3 p4=>?_
  have n4:Wk w n3 [ι (ε w) [η o,τ f ds.length a] 27,ι (ε w + 1) ((AX x b d)) 53] [] []:=p4.pk [0,1] []
  have h0:(Aq ds act x)=Bw ds x act s r:=by rw [j0] <;> rfl
  refine AU [(3,ζ (ε w)),(5,ζ (ε w + 1)),(6,δ s),(7,ξ r),(37,τ a0 act.length t),(38,δ ((act.length:Int))),(39,δ (((0:Nat):Int)))] fun z4=>?_
  refine Bo (by kernel_rfl) (fun E g2=>∃ (i1:Nat) (s0:Int) (r0:Bool) (E0:Nat→Value),i1≤act.length∧E=BE E0 [(3,ζ (ε w)),(5,ζ (ε w + 1)),(6,δ s0),(7,ξ r0),(37,τ a0 act.length t),(38,δ ((act.length:Int))),(39,δ ((i1:Int)))]∧(Aq ds act x)=Bw ds x (List.drop i1 act) s0 r0∧Wk w g2 [ι (ε w) [η o,τ f ds.length a] 27,ι (ε w + 1) ((AX x b d)) 53] [] []) (fun E _=>act.length - AL (E 39)) ⟨0,s,r,z4,Nat.zero_le _,rfl,h0,n4⟩ ?_
  clear h0
  rintro E g2 ⟨i1,s0,r0,E0,v6,rfl,h0,k4⟩ k1
  refine AB fJ k4 [] fun h6 c3=>?_
  refine AG (decide ((i1:Int) < (act.length:Int))) (fun x1=>?_) (fun x1=>?_)
  ·have c1:i1 < act.length:=by have:=of_decide_eq_true x1; omega
   obtain ⟨e1,g1⟩:∃ e,act[i1]?=some e:=⟨_,List.getElem?_eq_getElem c1⟩
   rw [Pf i1 e1 g1] at h0
   obtain ⟨p,q,rfl,l0,m0⟩:=n1.all (by omega)
   have k0:=m0 i1 _ g1
   refine Ak Ae pP c3 [] fun g6 b3=>?_
   refine Ay (g:=p) (off:=q) (cap:=t) (sz:=1) (k:=i1) (len:=act.length) (some 41) c1 Tryz.underlying22 ?_
   refine Dz 3 p (q + i1 * 1) (δ ((e1:Int))) (some 42) (by simpa using Ag k0 l0 b3.B 0 _ rfl) ?_
   obtain ⟨c0,d0,rfl,o1,p1⟩:=m1.all (Nat.lt_of_le_of_lt (Nat.zero_le _) (w0 _ (List.mem_of_getElem? g1)))
   have q1:ds[e1]?=some (κ ds e1):=getD_some default (w0 _ (List.mem_of_getElem? g1))
   obtain ⟨m,j,l,h,a1,v0,t0⟩:=p1 e1 _ q1
   refine Ak Ae u9 b3 [(0,1)] fun m3 a3=>?_
   refine Ay (g:=c0) (off:=d0) (cap:=a) (sz:=21) (k:=e1) (len:=ds.length) (some 46) (w0 _ (List.mem_of_getElem? g1)) Tryz.underlying25 ?_
   refine BN 59 c0 (d0 + e1 * 21) _ (some 47) (Ag a1 o1 a3.B) ?_
   refine CC 12 u7 [ι (ε w) [η o,τ (some ⟨c0,d0,none⟩) ds.length a] 27,ι (ε w + 1) ((AX x b d)) 53,ι (ε m3) ((Bg (κ ds e1) m j l h)) 59] a3 [(2,0)] fun f6 z0=>?_
   refine Av z0 [(1,1,0),(4,2,0),(9,1,0),(13,2,0)] [⟨5,[(52,ψ ((ω (κ ds e1) m j l h)))],ξ (Ac (κ ds e1)),((x.op == 3)) && (true)⟩] z0.G (fun sp b0=>?_) fun c6 h7 h4=>?_
   ·rw [List.mem_singleton.1 b0]
    exact AY 57 [.tmp 52] _ (fun _=>by kernel_rfl) fun hc u hu=>AQ hu (Gx (κ ds e1) m j l h u (v0.below (z0.B.trans (hu.mono z0.B.size))) (t0.below (z0.B.trans (hu.mono z0.B.size))))
   refine As 13 u6 h4 [] fun b6 z2=>?_
   refine Av z2 [(3,2,1),(5,1,6)] [⟨6,[(68,η ((κ ds e1).name)),(70,η (x.nm))],ξ (decide ((κ ds e1).name=x.nm)),((cond (cond (x.op == 3) (Ac (κ ds e1)) (false)) (true) (cond (x.op == 4) ((κ ds e1).kind == 2) (false)))) && (true)⟩] z2.G (fun sp b0=>?_) fun a6 f7 g4=>?_
   ·rw [List.mem_singleton.1 b0]
    exact BQ fun _ E u _=>Hl (T:=9) (T':=9) (x:=.tmp 68) (y:=.tmp 70)
   refine AB u4 g4 [] fun z5 x2=>?_
   refine AG (cond (cond (cond (x.op == 3) (Ac (κ ds e1)) (false)) (true) (cond (x.op == 4) ((κ ds e1).kind == 2) (false))) (decide ((κ ds e1).name=x.nm)) (false)) (fun v1=>?_) (fun v1=>?_)
   ·refine AB AEa x2 [] fun x5 w2=>?_
    have hS:(Aq ds act x)=(e1,true):=by rw [h0,v1] <;> rfl
    exact AK w2 (0,0) (.tuple #[δ ((e1:Int)),ξ true]) ⟨by rw [hS] <;> rfl,w2.B⟩
   refine AB (AZ pQ) x2 [] fun l3 f4=>?_
   refine AU [(3,ζ (ε w)),(5,ζ (ε w + 1)),(6,δ s0),(7,ξ r0),(37,τ (some ⟨p,q,none⟩) act.length t),(38,δ ((act.length:Int))),(39,δ (IntKind.i64.wrap ((i1:Int) + 1)))] fun x4=>?_
   have e4:Wk w l3 [ι (ε w) [η o,τ (some ⟨c0,d0,none⟩) ds.length a] 27,ι (ε w + 1) ((AX x b d)) 53] [] []:=f4.pk [0,1] []
   rw [Bl i1 (by omega)]
   refine k1 _ _ ⟨i1 + 1,s0,r0,x4,c1,rfl,by rw [h0,v1] <;> rfl,e4⟩ ?_
   show act.length - AL (δ ((i1 + 1:Nat):Int)) < act.length - AL (δ (i1:Int))
   simp only [AL]
   omega
  have l2:i1=act.length:=by have:=of_decide_eq_false x1; omega
  rw [l2,List.drop_length,RE] at h0
  refine AB AEZ c3 [] fun w5 v2=>?_
  have hS:(Aq ds act x)=(0,false):=by rw [h0] <;> rfl
  exact AK v2 (0,0) (.tuple #[δ 0,ξ false]) ⟨by rw [hS] <;> rfl,v2.B⟩
 refine AB fM K2 [] fun k3 c4=>?_
 have b4:Wk w k3 [ι (ε w) [η o,τ f ds.length a] 27,ι (ε w + 1) ((AX x b d)) 53] [] []:=c4.pk [0,1] []
 have g0:(Aq ds act x)=CP ds x act 0 false:=by unfold Aq; rw [c2] <;> rfl
 refine AU [(3,ζ (ε w)),(5,ζ (ε w + 1)),(6,δ 0),(7,ξ false),(37,τ a0 act.length t),(38,δ ((act.length:Int))),(39,δ (((0:Nat):Int)))] fun w4=>?_
 refine Bo (by kernel_rfl) (fun E d2=>∃ (i2:Nat) (q0:Int) (p0:Bool) (E0:Nat→Value),i2≤act.length∧E=BE E0 [(3,ζ (ε w)),(5,ζ (ε w + 1)),(6,δ q0),(7,ξ p0),(37,τ a0 act.length t),(38,δ ((act.length:Int))),(39,δ ((i2:Int)))]∧(Aq ds act x)=CP ds x (List.drop i2 act) q0 p0∧Wk w d2 [ι (ε w) [η o,τ f ds.length a] 27,ι (ε w + 1) ((AX x b d)) 53] [] []) (fun E _=>act.length - AL (E 39)) ⟨0,0,false,w4,Nat.zero_le _,rfl,g0,b4⟩ ?_
 clear g0
 rintro E d2 ⟨i2,q0,p0,E0,t6,rfl,g0,a4⟩ h1
 refine AB UH a4 [] fun v5 u2=>?_
 refine AG (decide ((i2:Int) < (act.length:Int))) (fun u1=>?_) (fun u1=>?_)
 ·have b1:i2 < act.length:=by have:=of_decide_eq_true u1; omega
  obtain ⟨z,f1⟩:∃ e,act[i2]?=some e:=⟨_,List.getElem?_eq_getElem b1⟩
  rw [Pe i2 z f1] at g0
  obtain ⟨p,q,rfl,l0,m0⟩:=n1.all (by omega)
  have k0:=m0 i2 _ f1
  refine Ak Ae fL u2 [] fun u5 t2=>?_
  refine Ay (g:=p) (off:=q) (cap:=t) (sz:=1) (k:=i2) (len:=act.length) (some 41) b1 Tryz.underlying22 ?_
  refine Dz 3 p (q + i2 * 1) (δ ((z:Int))) (some 42) (by simpa using Ag k0 l0 t2.B 0 _ rfl) ?_
  obtain ⟨c0,d0,rfl,o1,p1⟩:=m1.all (Nat.lt_of_le_of_lt (Nat.zero_le _) (w0 _ (List.mem_of_getElem? f1)))
  have q1:ds[z]?=some (κ ds z):=getD_some default (w0 _ (List.mem_of_getElem? f1))
  obtain ⟨m,j,l,h,a1,v0,t0⟩:=p1 z _ q1
  refine Ak Ae u3 t2 [(0,1)] fun i3 s2=>?_
  refine Ay (g:=c0) (off:=d0) (cap:=a) (sz:=21) (k:=z) (len:=ds.length) (some 46) (w0 _ (List.mem_of_getElem? f1)) Tryz.underlying25 ?_
  refine BN 59 c0 (d0 + z * 21) _ (some 47) (Ag a1 o1 s2.B) ?_
  refine CC 12 u0 [ι (ε w) [η o,τ (some ⟨c0,d0,none⟩) ds.length a] 27,ι (ε w + 1) ((AX x b d)) 53,ι (ε i3) ((Bg (κ ds z) m j l h)) 59] s2 [(2,0)] fun t5 x0=>?_
  refine Av x0 [(1,1,0),(4,2,0),(9,1,0),(13,2,0)] [⟨5,[(52,ψ ((ω (κ ds z) m j l h)))],ξ (Ac (κ ds z)),((x.op == 3)) && (true)⟩] x0.G (fun sp b0=>?_) fun q5 b7 z3=>?_
  ·rw [List.mem_singleton.1 b0]
   exact AY 57 [.tmp 52] _ (fun _=>by kernel_rfl) fun hc u hu=>AQ hu (Gx (κ ds z) m j l h u (v0.below (x0.B.trans (hu.mono x0.B.size))) (t0.below (x0.B.trans (hu.mono x0.B.size))))
  refine As 13 uz z3 [] fun k5 r2=>?_
  refine Av r2 [(3,2,1),(5,1,6)] [⟨6,[(68,η ((κ ds z).name)),(70,η (x.nm))],ξ (decide ((κ ds z).name=x.nm)),((cond (cond (x.op == 3) (Ac (κ ds z)) (false)) (true) (cond (x.op == 4) ((κ ds z).kind == 2) (false)))) && (true)⟩] r2.G (fun sp b0=>?_) fun h5 a7 x3=>?_
  ·rw [List.mem_singleton.1 b0]
   exact BQ fun _ E u _=>Hl (T:=9) (T':=9) (x:=.tmp 68) (y:=.tmp 70)
  refine AB uy x3 [] fun g5 q2=>?_
  refine AG (cond (cond (cond (x.op == 3) (Ac (κ ds z)) (false)) (true) (cond (x.op == 4) ((κ ds z).kind == 2) (false))) (decide ((κ ds z).name=x.nm)) (false)) (fun t1=>?_) (fun t1=>?_)
  ·refine AB AEY q2 [] fun e5 p2=>?_
   have hS:(Aq ds act x)=(z,true):=by rw [g0,t1] <;> rfl
   exact AK p2 (0,0) (.tuple #[δ ((z:Int)),ξ true]) ⟨by rw [hS] <;> rfl,p2.B⟩
  refine AB (AZ fM) q2 [] fun h3 v3=>?_
  refine AU [(3,ζ (ε w)),(5,ζ (ε w + 1)),(6,δ q0),(7,ξ p0),(37,τ (some ⟨p,q,none⟩) act.length t),(38,δ ((act.length:Int))),(39,δ (IntKind.i64.wrap ((i2:Int) + 1)))] fun v4=>?_
  have t3:Wk w h3 [ι (ε w) [η o,τ (some ⟨c0,d0,none⟩) ds.length a] 27,ι (ε w + 1) ((AX x b d)) 53] [] []:=v3.pk [0,1] []
  rw [Bl i2 (by omega)]
  refine h1 _ _ ⟨i2 + 1,q0,p0,v4,b1,rfl,by rw [g0,t1] <;> rfl,t3⟩ ?_
  show act.length - AL (δ ((i2 + 1:Nat):Int)) < act.length - AL (δ (i2:Int))
  simp only [AL]
  omega
 have k2:i2=act.length:=by have:=of_decide_eq_false u1; omega
 rw [k2,List.drop_length,RD] at g0
 refine AB AEX u2 [] fun c5 o2=>?_
 have hS:(Aq ds act x)=(0,false):=by rw [g0] <;> rfl
 exact AK o2 (0,0) (.tuple #[δ 0,ξ false]) ⟨by rw [hS] <;> rfl,o2.B⟩
def Ct (p0a:List UInt8) (ds:List (Df)) (p1:Int):List Nat:=cond (!(C7 p0a ds p1 == 0)) ([]) ((Aa ds p1))
noncomputable def nu:Code:=Tryz.f37.body.getD .skip
def AA8:=ν ([.code nu])
def pY:=Ω AA8
def AGG:=Ξ pY
def AA7:=Ψ pY
def AGF:=Ω AA7
theorem iD (a:List UInt8) (b:Option Addr) (ds:List (Df)) (f:Nat) (p1:Int) (w:World) (g:rowsDf w b ds) (j:ds.length≤4294967296) (hs:a.length≤4294967296) (ht:∀ d∈ds,Fc d):Calls Tryz.prog 37 ([ψ [η a,τ b ds.length f],δ p1]:List Value).toArray w fun e w'=>∃ (l:Option Addr) (k:Nat),e=.returned (τ l ((Ct a ds p1).length) k)∧Below (ε w) w w'∧Aj (ε w) w' [BS l k (Ct a ds p1)]:=by
 refine AS (fn:=Tryz.f37) (c:=nu) (n:=12) ?_
 have K1:=Wk.start w
 refine Ah AA8 [ι (ε w) [η a,τ b ds.length f] 27] K1 [(0,0)] fun x u=>?_
 refine AP u (args:=[ψ [η a,τ b ds.length f],δ p1]) (M1 a _ ds _ p1 x (g.below u.B) j hs ht) fun w2 K3=>?_
 refine AB pY K3 [] fun w3 t=>?_
 refine AG (!(C7 a ds p1 == 0)) (fun o=>?_) (fun o=>?_)
 ·have K5:=t.addNil 3 1 (fun e r=>r=Fw e)
  refine AB AGG K5 [] fun w5 q=>?_
  have m:(Ct a ds p1)=[]:=by unfold Ct; rw [o] <;> rfl
  exact AK q (0,0) (τ none 0 0) ⟨none,0,by rw [m] <;> rfl,q.B,by rw [m]; exact q.own0 [0] rfl (by decide)⟩
 refine AB AA7 t [(0,0)] fun v s=>?_
 refine BA (M5 a b ds f p1 v (g.below s.B) (by first | assumption | omega | (simp <;> omega))) fun en w8 y=>?_
 obtain ⟨i,h,rfl,z,Hn⟩:=y
 refine ⟨_,rfl,?_⟩
 have K8:=s.join z Hn
 refine AB AGF K8 [] fun w9 p=>?_
 have m:(Ct a ds p1)=(Aa ds p1):=by unfold Ct; rw [o] <;> rfl
 exact AK p (0,0) (τ i ((Aa ds p1).length) h) ⟨i,h,by rw [m] <;> rfl,p.B,by rw [m]; exact p.own0 [0] rfl (by decide)⟩
end
end Go.Proofs.YtkjbdagicjbjjaaGreat

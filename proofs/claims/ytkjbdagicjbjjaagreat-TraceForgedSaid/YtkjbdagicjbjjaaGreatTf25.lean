/-
  Part 25 of a proof: contracts of functions.
-/
import Derived.Test.YtkjbdagicjbjjaaGreatTf24
set_option linter.all false
namespace Go.Proofs.YtkjbdagicjbjjaaGreat
noncomputable section
open Go.RowKit
set_option maxRecDepth 100000
set_option maxHeartbeats 1000000
attribute [local irreducible] A8 BL AC AD AF Ao AY AL Aq Bb Cn BR BK At Fr
def Fe (p1:Int):List (Nat)→Nat→Int→Int
 | [],i0,a0_0=>-1
 | e0 :: tl,i0,a0_0=>cond (p1 == (e0:Int)) ((i0:Int)) (Fe p1 tl (i0 + 1) a0_0)
theorem Rx {p1:Int} {b:Nat} {a:Int}:Fe p1 [] b a=(-1):=by rw [Fe]
theorem Qn {p1:Int} {b:Int} {es:List (Nat)} (a c:Nat) (hi:es[a]?=some c):Fe p1 (es.drop a) a b=(cond (p1 == (c:Int)) ((a:Int)) (Fe p1 (es.drop (a + 1)) (a + 1) b)):=by
 have hl:a < es.length:=(List.getElem?_eq_some_iff.1 hi).1
 have he:es[a]=c:=(List.getElem?_eq_some_iff.1 hi).2
 rw [← List.getElem_cons_drop hl,Fe] <;> (try rw [he])
def LL (l:List (Nat)) (p1:Int):Int:=Fe p1 l 0 0
noncomputable def kq:Code:=Tryz.f82.body.getD .skip
def mJ:=AA 60 ([.code kq])
def cF:=AA 60 (Ao mJ)
def xR:=AA (Ak Aa 90 (AD cF)) (AD cF)
def xQ:=AA 60 (AC (AC xR))
def AC4:=AA 60 (AD xQ)
def AC3:=AA 60 (AF cF)
theorem dv (j:Option Addr) (l:List (Nat)) (f:Nat) (p1:Int) (w:World) (x:rowsNat w j l) (d0:l.length≤4294967296):Calls Tryz.prog 82 ([.slice j l.length f,AI p1]:List Value).toArray w fun e w'=>e=.returned (AI (LL l p1))∧Below w.heap.size w w':=by
 refine AR (fn:=Tryz.f82) (c:=kq) (n:=19) ?_
 have K1:=Wk.start w
 refine AB mJ K1 [] fun w1 K2=>?_
 have K3:Wk w w1 [] [] []:=K2.pk [] []
 have b:(LL l p1)=Fe p1 l 0 0:=by unfold LL; rfl
 refine AU [(0,.slice j l.length f),(1,AI p1),(4,AI 0),(7,AI ((l.length:Int))),(8,AI (((0:Nat):Int)))] fun E2=>?_
 refine Bd (by kernel_rfl) (fun E p=>∃ (a:Nat) (d:Int) (E0:Nat→Value),a≤l.length∧E=BC E0 [(0,.slice j l.length f),(1,AI p1),(4,AI d),(7,AI ((l.length:Int))),(8,AI ((a:Int)))]∧(LL l p1)=Fe p1 (List.drop a l) a d∧Wk w p [] [] []) (fun E _=>l.length - AK (E 8)) ⟨0,0,E2,Nat.zero_le _,rfl,b,K3⟩ ?_
 clear b
 rintro E p ⟨a,d,E0,h0,rfl,b,K4⟩ i
 refine AB cF K4 [] fun w4 K5=>?_
 refine AG (decide ((a:Int) < (l.length:Int))) (fun c5=>?_) (fun c5=>?_)
 ·have h:a < l.length:=by have:=of_decide_eq_true c5; omega
  obtain ⟨y,s⟩:∃ e,l[a]?=some e:=⟨_,List.getElem?_eq_getElem h⟩
  rw [Qn a y s] at b
  obtain ⟨m,o,rfl,t,u⟩:=x.all (by omega)
  have q:=u a _ s
  refine Ae Aa xR K5 [] fun w6 K6=>?_
  refine Au (g:=m) (off:=o) (cap:=f) (sz:=1) (k:=a) (len:=l.length) (some 14) h Tryz.underlying22 ?_
  refine Dh 3 m (o + a * 1) (AI ((y:Int))) (some 15) (by simpa using Ab q t K6.B 0 _ rfl) ?_
  refine AB xQ K6 [] fun w7 K7=>?_
  refine AG (p1 == (y:Int)) (fun z=>?_) (fun z=>?_)
  ·refine AB AC4 K7 [] fun w9 K8=>?_
   exact AP K8 (0,0) (AI ((a:Int))) (by rw [b,z] <;> rfl)
  ·refine AB (AY mJ) K7 [] fun v K9=>?_
   refine AU [(0,.slice (some ⟨m,o,none⟩) l.length f),(1,AI p1),(4,AI d),(7,AI ((l.length:Int))),(8,AI (IntKind.i64.wrap ((a:Int) + 1)))] fun c0=>?_
   have b0:Wk w v [] [] []:=K9.pk [] []
   rw [Bc a (by omega)]
   refine i _ _ ⟨a + 1,d,c0,h,rfl,by rw [b,z] <;> rfl,b0⟩ ?_
   show l.length - AK (AI ((a + 1:Nat):Int)) < l.length - AK (AI (a:Int))
   simp only [AK]
   omega
 ·have r:a=l.length:=by have:=of_decide_eq_false c5; omega
  rw [r,List.drop_length,Rx] at b
  refine AB AC3 K5 [] fun g0 a0=>?_
  exact AP a0 (0,0) (AI (-1)) (by rw [b] <;> rfl)
def Fg (l:List (Nat)) (p1:Int):Bool:=decide (0≤LL l p1)
noncomputable def kr:Code:=Tryz.f56.body.getD .skip
def xS:=AA 60 ([.code kr])
def AC6:=AA 60 (AC xS)
theorem R1 (a:Option Addr) (l:List (Nat)) (b:Nat) (p1:Int) (w:World) (f:rowsNat w a l) (d:l.length≤4294967296):Calls Tryz.prog 56 ([.slice a l.length b,AI p1]:List Value).toArray w fun e w'=>e=.returned (.bool (Fg l p1))∧Below w.heap.size w w':=by
 refine AR (fn:=Tryz.f56) (c:=kr) (n:=9) ?_
 have k:=Wk.start w
 refine AB xS k [] fun h g=>?_
 refine AQ g (args:=[.slice a l.length b,AI p1]) (dv _ l _ p1 h (f.below g.B) d) fun o j=>?_
 refine AB AC6 j [] fun m i=>?_
 exact AP i (0,0) (.bool (decide (0≤LL l p1))) (by unfold Fg; rfl)
def DH (p0a:List UInt8) (ds:List (Df)) (p1:Int) (i:Nat):List Nat×Int:=cond (!(DF p0a ds p1 == 0)) (([],DF p0a ds p1)) (cond (cond (!(Fg (An ds p1) (i:Int))) (true) (!(Al (ds.getD i default)))) (([],16)) ((((Cf ds (An ds p1) i)).1,((Cf ds (An ds p1) i)).2)))
noncomputable def lM:Code:=Tryz.f38.body.getD .skip
def yS:=AA 60 ([.code lM])
def mv:=AA 60 (AC yS)
def ADe:=AA 60 (AD mv)
def yR:=AA 60 (AF mv)
def yQ:=Ai 5 (AC yR)
def mt:=AA 60 (AL yQ)
def ADd:=AA 60 (AD mt)
def yP:=AA 60 (AF mt)
def ADc:=AA 60 (AC yP)
theorem lY (a:List UInt8) (k:Option Addr) (ds:List (Df)) (b:Nat) (p1:Int) (i:Nat) (w:World) (l:rowsDf w k ds) (b0:ds.length≤4294967296) (p:i < ds.length) (hs:a.length≤4294967296) (ht:∀ d∈ds,FU d) (m0:∀ d∈ds,DR d.body) (hn:∀ d∈ds,nE d.body≤1000000):Calls Tryz.prog 38 ([.agg ⟨[By a,.slice k ds.length b]⟩,AI p1,AI ((i:Int))]:List Value).toArray w fun e w'=>∃ (j0:Option Addr) (i0:Nat),e=.returned (.tuple #[.slice j0 ((((DH a ds p1 i)).1).length) i0,AI (((DH a ds p1 i)).2)])∧Below w.heap.size w w'∧Ac w.heap.size w' [BN j0 i0 (((DH a ds p1 i)).1)]:=by
 refine AR (fn:=Tryz.f38) (c:=lM) (n:=38) ?_
 have K1:=Wk.start w
 refine Af yS [⟨w.heap.size,0,[By a,.slice k ds.length b],27,true⟩] K1 [(0,0)] fun w1 K2=>?_
 refine AQ K2 (args:=[.agg ⟨[By a,.slice k ds.length b]⟩,AI p1]) (MA a _ ds _ p1 w1 (l.below K2.B) b0 hs ht) fun w2 K3=>?_
 refine AB mv K3 [] fun w3 K4=>?_
 refine AG (!(DF a ds p1 == 0)) (fun c4=>?_) (fun c4=>?_)
 ·have K5:=K4.addNil 3 1 (fun e r=>r=FV e)
  refine AB ADe K5 [] fun w5 K6=>?_
  have hS:(DH a ds p1 i)=([],DF a ds p1):=by unfold DH; rw [c4] <;> rfl
  exact AJ K6 (0,0) (.tuple #[.slice none 0 0,AI (DF a ds p1)]) ⟨none,0,by rw [hS] <;> rfl,K6.B,by rw [hS]; exact K6.own0 [0] rfl (by decide)⟩
 ·refine AB yR K4 [(0,0)] fun w6 K7=>?_
  refine A7 (MC a k ds b p1 w6 (l.below K7.B) (by first | assumption | omega | (simp <;> omega))) fun en w8 hh=>?_
  obtain ⟨o,m,rfl,b8,Hn⟩:=hh
  refine ⟨_,rfl,?_⟩
  have K8:=K7.join b8 Hn
  have d1:=Iw (ds:=ds) (p1:=p1)
  refine Am 5 yQ K8 [] fun w9 s=>?_
  obtain ⟨y,z,rfl,a0,n0⟩:=l.all (by omega)
  have r0:ds[i]?=some (ds.getD i default):=getD_some default p
  obtain ⟨j,g,h,f,l0,d0,c0⟩:=n0 i _ r0
  refine Ap s [(6,0,1),(9,1,0)] [⟨2,[(19,.slice o ((An ds p1).length) m),(20,AI ((i:Int)))],.bool (Fg (An ds p1) (i:Int)),true⟩,⟨8,[(25,.slice (some ⟨y,z,none⟩) ds.length b),(26,AI ((i:Int)))],.pointer (some ⟨y,z + i * 21,none⟩),(!(!(Fg (An ds p1) (i:Int)))) && (true)⟩,⟨10,[(28,.agg ⟨[AI ((ds.getD i default).kind),By ((ds.getD i default).name),.bool ((ds.getD i default).tb),AI ((ds.getD i default).tm),AI ((ds.getD i default).th),AI ((ds.getD i default).td),AI ((ds.getD i default).frm),.slice j ((ds.getD i default).ents.length) g,AI ((ds.getD i default).body.op),AI ((ds.getD i default).body.num),AI ((ds.getD i default).body.den),AI ((ds.getD i default).body.mu),AI ((ds.getD i default).body.hu),AI ((ds.getD i default).body.du),By ((ds.getD i default).body.nm),AI ((ds.getD i default).body.cnt),AI ((ds.getD i default).body.md),.slice h ((ds.getD i default).body.ks.length) f,AI ((ds.getD i default).mode),AI ((ds.getD i default).num),AI ((ds.getD i default).den)]⟩)],.bool (Al (ds.getD i default)),(!(!(Fg (An ds p1) (i:Int)))) && (true)⟩] (Lw (x:=⟨y,z + i * 21,[AI ((ds.getD i default).kind),By ((ds.getD i default).name),.bool ((ds.getD i default).tb),AI ((ds.getD i default).tm),AI ((ds.getD i default).th),AI ((ds.getD i default).td),AI ((ds.getD i default).frm),.slice j ((ds.getD i default).ents.length) g,AI ((ds.getD i default).body.op),AI ((ds.getD i default).body.num),AI ((ds.getD i default).body.den),AI ((ds.getD i default).body.mu),AI ((ds.getD i default).body.hu),AI ((ds.getD i default).body.du),By ((ds.getD i default).body.nm),AI ((ds.getD i default).body.cnt),AI ((ds.getD i default).body.md),.slice h ((ds.getD i default).body.ks.length) f,AI ((ds.getD i default).mode),AI ((ds.getD i default).num),AI ((ds.getD i default).den)],59,false⟩) s.G ⟨Nat.lt_of_lt_of_le a0 s.B.size,Ab l0 a0 s.B⟩) (fun sp k0=>?_) fun c1 e1 w0=>?_
  ·simp only [List.mem_cons,List.not_mem_nil,or_false] at k0
   rcases k0 with rfl | rfl | rfl
   ·exact AV 56 [.tmp 19,.tmp 20] [.slice o ((An ds p1).length) m,AI ((i:Int))] (fun _=>by kernel_rfl) fun hc u hu=>AN hu (R1 o (An ds p1) m (i:Int) u ((s.H.rowsNat (s.ix 0) (s.at 0 rfl)).below hu) (by first | assumption | omega | (simp <;> omega)))
   ·exact BG fun _ E u _=>BZ (sz:=21) (cap:=b) 25 (.tmp 25) (.tmp 26) p Tryz.underlying25
   ·exact AV 57 [.tmp 28] [.agg ⟨[AI ((ds.getD i default).kind),By ((ds.getD i default).name),.bool ((ds.getD i default).tb),AI ((ds.getD i default).tm),AI ((ds.getD i default).th),AI ((ds.getD i default).td),AI ((ds.getD i default).frm),.slice j ((ds.getD i default).ents.length) g,AI ((ds.getD i default).body.op),AI ((ds.getD i default).body.num),AI ((ds.getD i default).body.den),AI ((ds.getD i default).body.mu),AI ((ds.getD i default).body.hu),AI ((ds.getD i default).body.du),By ((ds.getD i default).body.nm),AI ((ds.getD i default).body.cnt),AI ((ds.getD i default).body.md),.slice h ((ds.getD i default).body.ks.length) f,AI ((ds.getD i default).mode),AI ((ds.getD i default).num),AI ((ds.getD i default).den)]⟩] (fun _=>by kernel_rfl) fun hc u hu=>AN hu (GU (ds.getD i default) j g h f u (d0.below (s.B.trans (hu.mono s.B.size))) (c0.below (s.B.trans (hu.mono s.B.size))))
  refine AB mt w0 [] fun b1 p0=>?_
  refine AG (cond (!(Fg (An ds p1) (i:Int))) (true) (!(Al (ds.getD i default)))) (fun e0=>?_) (fun e0=>?_)
  ·have v0:=p0.addNil 3 1 (fun e r=>r=FV e)
   refine AB ADd v0 [] fun a1 h0=>?_
   have hS:(DH a ds p1 i)=([],16):=by unfold DH; rw [c4,e0] <;> rfl
   exact AJ h0 (0,0) (.tuple #[.slice none 0 0,AI 16]) ⟨none,0,by rw [hS] <;> rfl,h0.B,by rw [hS]; exact h0.own0 [1] rfl (by decide)⟩
  ·refine AB yP p0 [(0,0)] fun q0 t=>?_
   refine A7 (RV a (some ⟨y,z,none⟩) ds b o (An ds p1) m i q0 (l.below t.B) (by first | assumption | omega | (simp <;> omega)) (t.H.rowsNat (t.ix 0) (t.at 0 rfl)) (by first | assumption | omega | (simp <;> omega)) p EI m0 hn) fun en z0 hh=>?_
   obtain ⟨v,q,rfl,s0,Hn⟩:=hh
   refine ⟨_,rfl,?_⟩
   have t0:=t.join s0 Hn
   refine AB ADc t0 [] fun x0 g0=>?_
   have hS:(DH a ds p1 i)=(((Cf ds (An ds p1) i)).1,((Cf ds (An ds p1) i)).2):=by unfold DH; rw [c4,e0] <;> rfl
   exact AJ g0 (0,0) (.tuple #[.slice v ((((Cf ds (An ds p1) i)).1).length) q,AI (((Cf ds (An ds p1) i)).2)]) ⟨v,q,by rw [hS] <;> rfl,g0.B,by rw [hS]; exact g0.own0 [1] rfl (by decide)⟩
end
end Go.Proofs.YtkjbdagicjbjjaaGreat
namespace Go.Proofs.YtkjbdagicjbjjaaGreat
open Go.RowKit
set_option maxRecDepth 100000
set_option maxHeartbeats 1000000
def HO (A:Option Addr) (c:Nat) (l:List Nat):Th where
 F k:=∃ off,A=some ⟨k,off,none⟩
 P w:=∃ g off cur,A=some ⟨g,off,none⟩∧w.heap[g]?=some (.cells cur 3 (0,0))∧l.length≤c∧off + c≤cur.size∧∀ (i:Nat) e,l[i]?=some e→cur[off + i]?=some (AI (e:Int))
 fr _ _ h _ hk:=by
  obtain ⟨g,off,cur,h1,h2,h3⟩:=h
  exact ⟨g,off,cur,h1,(hk g ⟨off,h1⟩ (Array.getElem?_eq_some_iff.1 h2).1).trans h2,h3⟩
section
variable {b:Nat} {w:World} {L:List Th}
theorem RX:∀ l:List Nat,(l.map FV).flatten=l.map fun (e:Nat)=>Value.int .i64 (e:Int)
 | []=>rfl
 | x :: l=>by rw [List.map_cons,List.flatten_cons,RX l]; rfl
theorem HO.of (h:Ac b w L) (i:Nat) {A:Option Addr} {c:Nat} {l:List Nat} (hi:L[i]?=some (BN A c l)) (hl:0 < l.length):Ac b w (L.set i (HO A c l)):=by
 obtain ⟨rs,hr,ho⟩:(BN A c l).P w:=h.all i _ hi
 have d:=Hj hr
 rcases ho.2 with ⟨_,p⟩ | ⟨g,cap,a,n,_,hg,hc,_,hs,ht⟩
 ·omega
 ·cases n
  refine h.set i hi (Nat.le_refl _) ⟨g,0,a,rfl,hg,hc,by omega,fun j e he=>?_⟩ (fun k m=>?_) (fun _ _ _=>rfl)
  ·have o:j < l.length:=(List.getElem?_eq_some_iff.1 he).1
   rw [d,RX] at ht
   have h2:(a.toList.take (l.length * 1))[j]?=some (AI (e:Int)):=by rw [ht,List.getElem?_map,he]; rfl
   rw [List.getElem?_take,if_pos (by omega)] at h2
   rw [Nat.zero_add,← Array.getElem?_toList]
   exact h2
  ·obtain ⟨off,ho⟩:=m
   have f:g=k:=by have:=Option.some.inj ho; injection this
   subst f
   refine ⟨(Array.getElem?_eq_some_iff.1 hg).1,.inl ?_⟩
   show some (⟨g,0,none⟩:Addr)=IN g
   rfl
theorem HO.rows (h:Ac b w L) (i:Nat) {A:Option Addr} {c:Nat} {l:List Nat} (hi:L[i]?=some (HO A c l)):rowsNat w A l:=by
 obtain ⟨g,off,a,rfl,hg,hc,hs,hx⟩:=h.all i _ hi
 refine .inr ⟨g,off,rfl,trivial,(Array.getElem?_eq_some_iff.1 hg).1,fun j r hr k u hu=>?_⟩
 obtain ⟨e,he,rfl⟩:=Ie hr
 cases k with
 | zero=>
  obtain rfl:=Option.some.inj (show some _=some u from hu)
  rw [Nat.mul_one,Nat.add_zero,cell_of_row w g (off + j) a _ _ hg]
  exact hx j e he
 | succ k=>simp at hu
theorem HO.cut (h:Ac b w L) (i:Nat) {a:Addr} {c:Nat} {x:Nat} {l:List Nat} (hi:L[i]?=some (HO (some a) c (x :: l))):Ac b w (L.set i (HO (if c=1 then some a else (some a).map (·.add (1 * 1))) (c - 1) l)):=by
 obtain ⟨g,off,d,n,hg,hc,hs,hx⟩:=h.all i _ hi
 obtain rfl:=Option.some.inj n
 rw [List.length_cons] at hc
 by_cases h0:c=1
 ·rw [if_pos h0]
  have hl:l=[]:=List.eq_nil_of_length_eq_zero (by omega)
  subst hl
  refine h.set i hi (Nat.le_refl _) ⟨g,off,d,rfl,hg,by simp,by omega,fun j e he=>by simp at he⟩ (fun k f=>⟨?_,.inl f⟩) (fun _ _ _=>rfl)
  exact (h.lo i _ hi k f).2
 ·rw [if_neg h0]
  refine h.set i hi (Nat.le_refl _) ⟨g,off + 1,d,by rw [Option.map_some,Addr.add_mid],hg,by omega,by omega,fun j e he=>?_⟩ (fun k f=>?_) (fun _ _ _=>rfl)
  ·rw [show off + 1 + j=off + (j + 1) by omega]
   exact hx (j + 1) e he
  ·obtain ⟨o,ho⟩:=f
   rw [Option.map_some,Addr.add_mid] at ho
   have m:g=k:=by have:=Option.some.inj ho; injection this
   subst m
   exact ⟨(Array.getElem?_eq_some_iff.1 hg).1,.inl ⟨off,rfl⟩⟩
variable {k:Nat} {E:Nat→Value}
theorem jn (H:Ac b w L) (i:Nat) {A:Option Addr} {c:Nat} {l:List Nat} (hi:L[i]?=some (HO A c l)) (e g:Nat) (b0:Az.good w ⟨g,0,[Value.int .i64 (e:Int)],3,true⟩) (o:Oper) (s x:Operand) (ho:o.op=.call { callee:=.builtin .append,args:=#[s,x],argTypes:=#[22,22] })
  (hs:Ax k E s=.slice A l.length c) (hx:Ax k E x=.slice (IN g) 1 1) (e0:l.length + 1≤100000000000) :
  ∃ A' c' w',(execOp (Ax k E) o).run Tryz.prog w=.ok (.value (.slice A' (l++[e]).length c')) w'∧Ac b w' (L.set i (HO A' c' (l++[e])))∧Below b w w':=by
 obtain ⟨h,off,a,rfl,hg,hc,s0,c0⟩:=H.all i _ hi
 have d:(Tryz.prog.info? 3).map (fun i=>(i.zero.map (·.cells.size),i.size,Nat.ble i.bytes 1024))=some (some 1,1,true):=by kernel_rfl
 obtain ⟨f,h0,z,hz,k0,m,r0⟩:∃ f,Tryz.prog.info? 3=some f∧∃ z,f.zero=some z∧z.cells.size=1∧f.size=1∧f.bytes≤1024:=by
  cases hi:Tryz.prog.info? 3 with
  | none=>rw [hi] at d; cases d
  | some f=>
   rw [hi] at d
   simp only [Option.map_some,Option.some.injEq,Prod.mk.injEq,Option.map_eq_some_iff] at d
   obtain ⟨⟨z,h1,h2⟩,h3,h4⟩:=d
   exact ⟨f,rfl,z,h1,h2,h3,Nat.le_of_ble_eq_true h4⟩
 have ht:Tryz.prog.underlying 22=some (.slice 3):=Tryz.underlying22
 have a0:(l.length + 1) * f.bytes≤140737488355328:=Nat.le_trans (Nat.mul_le_mul e0 r0) (by decide)
 have p:∀ j u,[Value.int .i64 (e:Int)][j]?=some u→w.cell? ((⟨g,0,none⟩:Addr).add j)=some u:=fun j u hu=>by
  rw [Addr.add_mid]
  exact EH b0 hu rfl (by show 0 + j=0 + j; rfl) rfl
 have m0:=H.lo i _ hi
 have p0:b≤h∧h < w.heap.size:=m0 h ⟨off,rfl⟩
 by_cases hroom:l.length + 1≤c
 ·have hf:=run_firstCells_some (P:=Tryz.prog) w 1 1 ⟨g,0,none⟩ 1 1 [Value.int .i64 (e:Int)] rfl p
  have d0:=run_storeCells_at Tryz.prog h (off + l.length) 3 [Value.int .i64 (e:Int)] 0 a w hg (by simp; omega) (fun v hv=>by rw [List.mem_singleton.1 hv]; rfl)
  have hr:(Builtin.append_ #[22,22] o.type #[.slice (some ⟨h,off,none⟩) l.length c,.slice (IN g) 1 1]).run Tryz.prog w=.ok (.slice (some ⟨h,off,none⟩) (l.length + 1) c) (w.setRow h (a.toList.take (off + l.length)++[Value.int .i64 (e:Int)]++a.toList.drop (off + l.length + 1)).toArray):=by
   simp only [Nat.add_zero,List.length_singleton] at d0
   simp [Builtin.append_,run_underlying ht,sizeOf,typeInfo,h0,m,Builtin.lenOf,hroom,hf,Addr.add_lit,d0]
  have j0:(a.toList.take (off + l.length)).length=off + l.length:=by have i0:a.toList.length=a.size:=Array.length_toList; rw [List.length_take]; omega
  obtain ⟨nw,n⟩:∃ nw,nw=(a.toList.take (off + l.length)++[Value.int .i64 (e:Int)]++a.toList.drop (off + l.length + 1)).toArray:=⟨_,rfl⟩
  rw [← n] at hr
  refine ⟨some ⟨h,off,none⟩,c,w.setRow h nw,?_,H.set i hi (by simp [World.setRow]) ⟨h,off,_,rfl,setRow_heap w h a _ _ _ hg,by simp; omega,?_,fun j u r=>?_⟩ (fun q t=>?_) (fun q t l0=>setRow_other w h q _ fun he=>l0 ⟨off,by rw [he]⟩),⟨rfl,rfl,rfl,by simp [World.setRow],fun q t=>setRow_other w h q _ fun he=>by omega⟩⟩
  ·unfold execOp
   simp only [ho,resolve,invoke,builtin,Sem.run_bind,Sem.run_pure,Result.andThen_ok,List.map_toArray,List.map_cons,List.map_nil,hs,hx,hr]
   rw [List.length_append,List.length_singleton]
  ·have i0:a.toList.length=a.size:=Array.length_toList
   rw [n,List.size_toArray,List.length_append,List.length_append,j0,List.length_drop,i0,List.length_singleton]
   omega
  ·rw [n,List.getElem?_toArray,List.append_assoc]
   rcases D8 r with r | ⟨t0,r⟩
   ·have g0:j < l.length:=(List.getElem?_eq_some_iff.1 r).1
    rw [List.getElem?_append_left (by omega),List.getElem?_take,if_pos (by omega),Array.getElem?_toList]
    exact c0 j u r
   ·have n0:j - l.length=0:=by have:=(List.getElem?_eq_some_iff.1 r).1; simp at this; omega
    rw [n0] at r
    obtain rfl:=Option.some.inj (show some e=some u from r)
    rw [List.getElem?_append_right (by omega),j0,show off + j - (off + l.length)=0 by omega]
    rfl
  ·obtain ⟨o2,y⟩:=t
   refine ⟨?_,.inl ⟨o2,y⟩⟩
   have:h=q:=by have:=Option.some.inj y; injection this
   rw [← this]
   simpa [World.setRow] using p0.2
 ·have hr:=run_append_grow (P:=Tryz.prog) w 22 o.type 3 f z ht h0 hz ⟨h,off,none⟩ l.length c (l.map fun (e:Nat)=>Value.int .i64 (e:Int)) (by rw [List.length_map,m,Nat.mul_one]) (fun j v hv=>by
   obtain ⟨u,hu,rfl⟩:=Ie hv
   rw [Addr.add_mid,cell_of_row w h (off + j) a _ _ hg]
   exact c0 j u hu) ⟨g,0,none⟩ 1 1 [Value.int .i64 (e:Int)] (by rw [m]; rfl) p (by omega) (by omega) (growslice_fits (by omega) a0)
  have q0:=grownCap_ge w (l.length + 1) c 3
  obtain ⟨nw,n⟩:∃ nw,nw=(l.map fun (e:Nat)=>Value.int .i64 (e:Int)).toArray++[Value.int .i64 (e:Int)].toArray++Builtin.zeroCells z.cells (grownCap w (l.length + 1) c 3 - (l.length + 1)):=⟨_,rfl⟩
  rw [← n] at hr
  refine ⟨IN w.heap.size,_,w.drew.alloc (.cells nw 3),?_,H.set i hi (by simp) ⟨w.heap.size,0,nw,rfl,heap_alloc_new w.drew _,by rw [List.length_append,List.length_singleton]; exact q0,?_,fun j u r=>?_⟩ (fun q t=>?_) (fun q t _=>F5 w.drew _ q t),⟨rfl,rfl,rfl,by simp,fun q t=>F5 w.drew _ q (Nat.lt_of_lt_of_le t H.base)⟩⟩
  ·unfold execOp
   simp only [ho,resolve,invoke,builtin,Sem.run_bind,Sem.run_pure,Result.andThen_ok,List.map_toArray,List.map_cons,List.map_nil,hs,hx,hr]
   rw [List.length_append,List.length_singleton]
  ·rw [n]
   simp only [Array.size_append,List.size_toArray,size_zeroCells,k0,List.length_map,List.length_singleton,Nat.mul_one]
   omega
  ·have hm:((l++[e]).map fun (e:Nat)=>Value.int .i64 (e:Int))[j]?=some (AI (u:Int)):=by rw [List.getElem?_map,r]; rfl
   rw [List.map_append] at hm
   have g0:j < (l++[e]).length:=(List.getElem?_eq_some_iff.1 r).1
   rw [List.length_append,List.length_singleton] at g0
   rw [Nat.zero_add,n,Array.getElem?_append_left (by simp; omega)]
   simpa using hm
  ·obtain ⟨o2,y⟩:=t
   have:w.heap.size=q:=by have:=Option.some.inj y; injection this
   subst this
   exact ⟨by simp,.inr (Nat.le_refl _)⟩
end
section
variable {P:Program} {f:FuncId} {R:Ending→World→Prop}
theorem nl {n:Nat} {todo:List Item} {E:Nat→Value} {w:World} (hl:Pz todo=true) (I:Nat→(Nat→Value)→World→Prop) (m:Nat) (h:I m E w)
  (round:∀ m E w,I m E w→(∀ a b w',a < m→I a b w'→At P f R (AY todo) (Fr n b) w')→At P f R (Ao todo) (Fr n E) w):At P f R todo (Fr n E) w:=by
 unfold Pz at hl
 split at hl
 ·rename_i c k
  have key:∀ (m:Nat) (E:Nat→Value) (w:World),I m E w→At P f R (.code c :: .inLoop c :: k) (Fr n E) w:=by
   intro m
   induction m using Nat.strongRecOn with
   | _ m ih=>
    intro E w g
    refine round m E w g fun a b w' d e=>?_
    exact DW (by simp [AY]) (fun _=>step_inLoop) (ih a d b w' e)
  exact DW (by simp) (fun _=>step_loop) (key m E w h)
 ·cases hl
end
end Go.Proofs.YtkjbdagicjbjjaaGreat

/-
  Part 17 of a proof: contracts of functions.
-/
import Derived.Test.YtkjbdagicjbjjaaGreatTf16
import Derived.Sort.OwnSortedInts
import Derived.Lib.RowBridge
set_option linter.all false
namespace Go.Proofs.YtkjbdagicjbjjaaGreat
noncomputable section
open Go.RowKit
set_option maxRecDepth 100000
set_option maxHeartbeats 1000000
attribute [local irreducible] A8 BL AC AD AF Ao AY AL Aq Bb Cn BR BK At Fr
theorem eK {f:FuncId} {args:Array Value} {w:World} {v:Value} (h:Calls Tryz.prog f args w fun e w'=>e=.returned v∧w'=w):Calls Tryz.prog f args w fun e w'=>e=.returned v∧Below w.heap.size w w':=
 h.mono fun _ _ a=>⟨a.1,QK a.2.symm⟩
def WU:Int:=0
noncomputable def WR:Code:=Tryz.f114.body.getD .skip
def mx:List Item:=(CW (fun _=>false) 400 [false] ([.code WR])).2
def ADh:List Item:=(CW (fun _=>false) 400 [] (AC mx)).2
theorem WT (w:World):Calls Tryz.prog 114 ([.int .u64 0]:List Value).toArray w fun e w'=>e=.returned (AI (WU))∧Below w.heap.size w w':=by
 refine AR (fn:=Tryz.f114) (c:=WR) (n:=8) ?_
 have g:=Wk.start w
 refine CK (CW (fun _=>false) 400 [false] ([.code WR])).1 [] mx g fun a f=>?_
 refine AQ f (eK (Tryz.bits_Len64 0 a (by decide) (by decide))) fun i d=>?_
 refine CK (CW (fun _=>false) 400 [] (AC mx)).1 [] ADh d fun h b=>?_
 exact AP b (0,0) (AI 0) (by unfold WU; rfl)
def j6:Unit:=()
noncomputable def WN:Code:=Tryz.f133.body.getD .skip
def ADP:List Item:=(CW (fun _=>false) 400 [false] ([.code WN])).2
theorem dq (w:World):Calls Tryz.prog 133 ([.slice none 0 0,AI 0,AI 0]:List Value).toArray w fun e w'=>e=.returned (.tuple #[])∧Below w.heap.size w w':=by
 refine AR (fn:=Tryz.f133) (c:=WN) (n:=49) ?_
 have b:=Wk.start w
 refine CK (CW (fun _=>false) 400 [false] ([.code WN])).1 [] ADP b fun d a=>?_
 have f:(j6)=():=by unfold j6; rfl
 exact AJ a (0,0) (.tuple #[]) ⟨rfl,a.B⟩
def jq:Unit:=()
noncomputable def WL:Code:=Tryz.f113.body.getD .skip
def mP:List Item:=(CW (fun _=>false) 400 [true] ([.code WL])).2
def AC9:List Item:=(CW (fun _=>false) 400 [] (AC mP)).2
theorem dX (w:World):Calls Tryz.prog 113 ([.slice none 0 0,AI 0,AI 0,AI 0]:List Value).toArray w fun e w'=>e=.returned (.tuple #[])∧Below w.heap.size w w':=by
 refine AR (fn:=Tryz.f113) (c:=WL) (n:=134) ?_
 have g:=Wk.start w
 refine CK (CW (fun _=>false) 400 [true] ([.code WL])).1 [] mP g fun b f=>?_
 refine AQ f (dq b) fun i d=>?_
 refine CK (CW (fun _=>false) 400 [] (AC mP)).1 [] AC9 d fun h a=>?_
 have j:(jq)=():=by unfold jq; rfl
 exact AJ a (0,0) (.tuple #[]) ⟨rfl,a.B⟩
def XT:Unit:=()
noncomputable def WK:Code:=Tryz.f85.body.getD .skip
def mL:List Item:=(CW (fun _=>false) 400 [] ([.code WK])).2
def mK:List Item:=(CW (fun _=>false) 400 [] (AC mL)).2
def AC5:List Item:=(CW (fun _=>false) 400 [] (AC mK)).2
theorem Wi (w:World):Calls Tryz.prog 85 ([.slice none 0 0]:List Value).toArray w fun e w'=>e=.returned (.tuple #[])∧Below w.heap.size w w':=by
 refine AR (fn:=Tryz.f85) (c:=WK) (n:=11) ?_
 have j:=Wk.start w
 refine CK (CW (fun _=>false) 400 [] ([.code WK])).1 [] mL j fun d i=>?_
 refine AQ i (WT d) fun m h=>?_
 refine CK (CW (fun _=>false) 400 [] (AC mL)).1 [] mK h fun b g=>?_
 refine AQ g (dX b) fun l f=>?_
 refine CK (CW (fun _=>false) 400 [] (AC mK)).1 [] AC5 f fun k a=>?_
 have o:(XT)=():=by unfold XT; rfl
 exact AJ a (0,0) (.tuple #[]) ⟨rfl,a.B⟩
set_option maxHeartbeats 400000
def DA (l:List Nat):List Int:=l.map Int.ofNat
def Fu (l:List Nat):List Nat:=((DA l).mergeSort fun x y=>decide (x≤y)).map Int.toNat
def ES (l:List Nat):List Nat:=(Lib.compact (DA l)).map Int.toNat
theorem Rc {a:List Int} (h:∀ z∈a,0≤z):DA (a.map Int.toNat)=a:=by
 unfold DA
 rw [List.map_map]
 refine (List.map_congr_left fun z hz=>?_).trans (List.map_id _)
 have:=h z hz
 simp only [Function.comp_apply,id_eq]
 exact Int.toNat_of_nonneg this
theorem Mj {l:List Nat}:∀ z∈DA l,0≤z:=fun z hz=>by
 obtain ⟨n,_,rfl⟩:=List.mem_map.1 hz
 exact Int.natCast_nonneg n
theorem jc:Fu []=[]:=by unfold Fu DA; simp
theorem KN (l:List Nat):(Fu l).length=l.length:=by
 unfold Fu DA
 rw [List.length_map,List.length_mergeSort,List.length_map]
theorem dO (l:List Nat):DA (Fu l)=(DA l).mergeSort fun x y=>decide (x≤y):=Rc fun z hz=>Mj z (List.mem_mergeSort.1 hz)
theorem jd {l:List Nat} {n:Nat}:n∈Fu l↔n∈l:=by
 unfold Fu DA
 constructor
 ·intro h
  obtain ⟨z,hz,rfl⟩:=List.mem_map.1 h
  obtain ⟨m,hm,rfl⟩:=List.mem_map.1 (List.mem_mergeSort.1 hz)
  exact hm
 ·intro h
  exact List.mem_map.2 ⟨Int.ofNat n,List.mem_mergeSort.2 (List.mem_map.2 ⟨n,h,rfl⟩),rfl⟩
theorem Nv {a:List Int} {z:Int} (h:z∈Lib.compact a):z∈a:=by
 unfold Lib.compact Lib.compactUpTo at h
 obtain ⟨i,hi,rfl⟩:=List.mem_map.1 h
 have hl:i < a.length:=List.mem_range.1 (List.mem_filter.1 hi).1
 rw [getElem!_pos _ i (by simpa using hl)]
 simp
theorem R2 (l:List Nat):DA (ES l)=Lib.compact (DA l):=Rc fun z hz=>Mj z (Nv hz)
theorem WD {l:List Nat} {n:Nat} (h:n∈ES l):n∈l:=by
 obtain ⟨z,hz,rfl⟩:=List.mem_map.1 h
 obtain ⟨m,hm,rfl⟩:=List.mem_map.1 (Nv hz)
 exact hm
theorem Mv (l:List Nat):(ES l).length≤l.length:=by
 unfold ES
 rw [List.length_map]
 exact Nat.le_trans (Lib.compact_length_le _) (by unfold DA; rw [List.length_map]; exact Nat.le_refl _)
theorem Kk (l:List Nat):(l.map FV).flatten=(DA l).map (Value.int .i64):=by
 induction l with
 | nil=>rfl
 | cons n l ih=>rw [List.map_cons,List.flatten_cons,ih]; rfl
section
variable {b:Nat} {w we:World} {L:List Th} {g c:Nat} {l:List Nat}
theorem Jr (H:Ac b we ([BN (IN g) c l]++L)):∃ a,we.heap[g]?=some (.cells a 3 (0,0))∧l.length≤c∧c≤maxLen∧a.size=c * 1∧a.toList.take l.length=(DA l).map (Value.int .i64):=by
 obtain ⟨rs,hr,ho⟩:(BN (IN g) c l).P we:=H.all 0 _ rfl
 rcases ho.2 with ⟨d,_⟩ | ⟨e,cap,a,d,_,hg,hc,hm,hs,ht⟩
 ·cases d
 ·cases d
  rw [Hj hr,Kk,Nat.mul_one] at ht
  exact ⟨a,hg,hc,hm,hs,ht⟩
theorem Po (H:Ac b we ([BN (IN g) c l]++L)) {n:Nat} {os:Array Obj} {ts:List Int} (hl:ts.length=l.length) (l':List Nat) (j:ts.take l'.length=DA l') (h:l'.length≤l.length) :
  Below b we (Go.Sort.grow (Go.Sort.putRow (Value.int .i64) (Go.Sort.ahead we n) g 0 ts.toArray) os)∧Ac b (Go.Sort.grow (Go.Sort.putRow (Value.int .i64) (Go.Sort.ahead we n) g 0 ts.toArray) os) ([BN (IN g) c l']++L):=by
 obtain ⟨i,hb,o,h2,m,p⟩:=Jr H
 have hg:=grownBy_sortedI (w:=we) (g:=g) (n:=n) (os:=os) ts.toArray
 have f:=H.lo 0 _ rfl g rfl
 refine ⟨⟨hg.os,hg.tape,hg.output,hg.size,fun k d=>hg.block k (Nat.lt_of_lt_of_le d H.base) fun he=>by have:=Option.some.inj he; omega⟩,?_⟩
 refine H.set 0 (s:=BN (IN g) c l) rfl hg.size ⟨l'.map FV,?_,?_,?_⟩ (fun k d=>⟨?_,.inl d⟩) (fun k d hf=>hg.block k d fun he=>hf (by obtain rfl:=Option.some.inj he; rfl))
 ·have:∀ q:List Nat,EF (fun e r=>r=FV e) q (q.map FV):=fun q=>by
   induction q with
   | nil=>trivial
   | cons a q ih=>exact ⟨rfl,ih⟩
  exact this l'
 ·rw [Kk]; unfold DA; simp
 ·refine .inr ⟨g,c,_,rfl,Nat.zero_le _,heap_sortedI _ hb,Nat.le_trans h o,h2,by simp [Go.Sort.putCells,m],?_⟩
  rw [Nat.mul_one,Kk,← j,List.map_take,← take_putCellsI i ts (by omega),List.take_take,Nat.min_eq_left (by omega)]
 ·obtain rfl:g=k:=by have:=Option.some.inj d; injection this
  exact Nat.lt_of_lt_of_le f.2 hg.size
theorem m4 (L:List Th) (c:Option Addr) (l:List Nat) (a:Nat) (w d:World) (k:l.length≤4294967296) (B:Below w.heap.size w d) (H:Ac w.heap.size d ([BN c a l]++L)):Calls Tryz.prog 85 ([.slice c l.length a]:List Value).toArray d fun e w'=>e=.returned (.tuple #[])∧Below w.heap.size w w'∧Ac w.heap.size w' ([BN c a (Fu l)]++L):=by
 obtain ⟨rs,hr,ho⟩:(BN c a l).P d:=H.all 0 _ rfl
 rcases ho.2 with ⟨f,p⟩ | ⟨g,cap,i,f,_⟩
 ·obtain rfl:l=[]:=List.eq_nil_of_length_eq_zero p
  obtain ⟨rfl,rfl⟩:c=none∧a=0:=by injection f with e1 e2 e3; exact ⟨e1,e3⟩
  refine (Wi d).mono fun e w' h=>?_
  obtain ⟨rfl,b⟩:=h
  exact ⟨rfl,B.trans (b.mono B.size),by rw [jc]; exact H.below b⟩
 ·obtain ⟨rfl,rfl⟩:c=IN g∧a=cap:=by injection f with e1 e2 e3; exact ⟨e1,e3⟩
  obtain ⟨i,hb,f,h2,q,o⟩:=Jr H
  have m:=holds_of_blockI (ss:=DA l) hb (by unfold DA at *; rw [List.length_map]; exact o)
  have:=Tryz.slices_Sort_int g 0 a (DA l) d m (LN hb) (by unfold DA; rw [List.length_map]; omega)
  rw [show (DA l).length=l.length by unfold DA; rw [List.length_map]] at this
  refine this.mono fun e w' h=>?_
  obtain ⟨rfl,n,os,rfl⟩:=h
  have j:=Po H (n:=n) (os:=os) (ts:=(DA l).mergeSort fun x y=>decide (x≤y)) (by unfold DA; rw [List.length_mergeSort,List.length_map]) (Fu l) (by rw [← dO]; exact List.take_of_length_le (by unfold DA; rw [List.length_map]; exact Nat.le_refl _)) (by rw [KN]; exact Nat.le_refl _)
  exact ⟨rfl,B.trans j.1,j.2⟩
theorem W6 (L:List Th) (b:Option Addr) (l:List Nat) (a:Nat) (w c:World) {m:Nat} (r:l.length≤4294967296) (hm:l.length=m) (B:Below w.heap.size w c) (H:Ac w.heap.size c ([BN b a l]++L)):Calls Tryz.prog 86 ([.slice b m a]:List Value).toArray c fun e w'=>∃ (f:Option Addr) (d:Nat),e=.returned (.slice f (ES l).length d)∧Below w.heap.size w w'∧Ac w.heap.size w' ([BN f d (ES l)]++L):=by
 subst hm
 obtain ⟨rs,hr,ho⟩:(BN b a l).P c:=H.all 0 _ rfl
 rcases ho.2 with ⟨j,v⟩ | ⟨g,cap,p,j,_⟩
 ·obtain rfl:l=[]:=List.eq_nil_of_length_eq_zero v
  obtain ⟨rfl,rfl⟩:b=none∧a=0:=by injection j with e1 e2 e3; exact ⟨e1,e3⟩
  refine (Tryz.slices_Compact_int_empty none 0 c).mono fun e w' o=>?_
  obtain ⟨rfl,rfl⟩:=o
  exact ⟨none,0,rfl,B,H⟩
 ·obtain ⟨rfl,rfl⟩:b=IN g∧a=cap:=by injection j with e1 e2 e3; exact ⟨e1,e3⟩
  obtain ⟨p,hb,j,h2,x,u⟩:=Jr H
  have h:(DA l).length=l.length:=by unfold DA; rw [List.length_map]
  have t:=holds_of_blockI (ss:=DA l) hb (by rw [h]; exact u)
  have:=Tryz.slices_Compact_int g 0 a (DA l) c t (by omega) (by omega)
  rw [h] at this
  refine this.mono fun e w' o=>?_
  obtain ⟨rfl,q,rfl⟩:=o
  have s:=Lib.compact_length_le (DA l)
  have i:(ES l).length=(Lib.compact (DA l)).length:=by unfold ES; rw [List.length_map]
  have k:=Po H (n:=q) (os:=#[]) (ts:=Lib.compact (DA l)++List.replicate (l.length - (Lib.compact (DA l)).length) 0) (by rw [List.length_append,List.length_replicate]; omega) (ES l) (by rw [R2,i,List.take_left]) (Mv l)
  rw [Go.Sort.grow_empty] at k
  exact ⟨IN g,a,by rw [i],B.trans k.1,k.2⟩
end
end
end Go.Proofs.YtkjbdagicjbjjaaGreat
namespace Go.Proofs.YtkjbdagicjbjjaaGreat
noncomputable section
open Go.RowKit
set_option maxRecDepth 100000
set_option maxHeartbeats 1000000
attribute [local irreducible] A8 BL AC AD AF Ao AY AL Aq Bb Cn BR BK At Fr
theorem Dt {α:Type} [Inhabited α] {l:List α} {i:Nat} (h:i < l.length):l.getD i default∈l:=List.mem_of_getElem? (getD_some default h)
theorem Ph (x:Ex):(BU [] x).length≤nE x:=by simpa using Lg [] x
theorem MF {ds:List Df} {x:Ex} {P:Nat→Prop}:∀ (c:List Nat) (a:Int) (b:Bool),(∀ i∈c,P i)→(!(DJ ds x c a b).2)=false→P (DJ ds x c a b).1
 | [],a,b,_,h=>by rw [DJ] at h; cases h
 | e :: es,a,b,hp,h=>by
  rw [DJ] at h ⊢
  revert h
  cases (cond (cond (cond (x.op == 3) (Al (ds.getD e default)) (false)) (true) (cond (x.op == 4) ((ds.getD e default).kind == 2) (false))) (decide ((ds.getD e default).name=x.nm)) (false)) <;> intro h
  ·exact MF es a b (fun i hi=>hp i (by simp [hi])) h
  ·exact hp e (by simp)
theorem ME {ds:List Df} {x:Ex} {P:Nat→Prop}:∀ (c:List Nat) (a:Int) (b:Bool),(∀ i∈c,P i)→(!(DS ds x c a b).2)=false→P (DS ds x c a b).1
 | [],a,b,_,h=>by rw [DS] at h; cases h
 | e :: es,a,b,hp,h=>by
  rw [DS] at h ⊢
  revert h
  cases (cond (cond (cond (x.op == 3) (Al (ds.getD e default)) (false)) (true) (cond (x.op == 4) ((ds.getD e default).kind == 2) (false))) (decide ((ds.getD e default).name=x.nm)) (false)) <;> intro h
  ·exact ME es a b (fun i hi=>hp i (by simp [hi])) h
  ·exact hp e (by simp)
theorem MG {ds:List Df} {x:Ex} {c:List Nat} (d:∀ i∈c,i < ds.length):∀ (es:List Df) (i:Nat) (a:Int) (b:Bool),i + es.length=ds.length→(!(DT ds c x es i a b).2)=false→(DT ds c x es i a b).1 < ds.length
 | [],i,a,b,_,h=>by rw [DT] at h ⊢; exact MF (P:=fun i=>i < ds.length) c a b d h
 | e :: es,i,a,b,hl,h=>by
  rw [List.length_cons] at hl
  rw [DT] at h ⊢
  revert h
  cases (cond (e.kind == 1) (decide (e.name=x.nm)) (false)) <;> intro h
  ·exact MG d es (i + 1) a b (by omega) h
  ·show i < ds.length
   omega
theorem Lm {ds:List Df} {x:Ex} {a:List Nat} (b:∀ i∈a,i < ds.length) (h:(!(Ay ds a x).2)=false):(Ay ds a x).1 < ds.length:=by
 unfold Ay at h ⊢
 revert h
 cases x.op == 3 <;> intro h
 ·exact ME (P:=fun i=>i < ds.length) a 0 false b h
 ·exact MG b ds 0 0 false (Nat.zero_add _) h
def Dg (ds:List (Df)) (act:List (Nat)):List (Ex)→Int→List Nat→List Nat×Int
 | [],a0_0,a0_1=>((ES (Fu a0_1)),0)
 | e0 :: tl,a0_0,a0_1=>cond (!(((Ay ds act e0)).2)) (([],7)) (cond (Al ((ds.getD ((Ay ds act e0)).1 default))) (Dg ds act tl a0_0 (a0_1++[((Ay ds act e0)).1])) (Dg ds act tl a0_0 a0_1))
theorem Rt {ds:List (Df)} {c:List (Nat)} {b:Int} {a:List Nat}:Dg ds c [] b a=(((ES (Fu a)),0)):=by rw [Dg]
theorem Qk {ds:List (Df)} {a:List (Nat)} {c:Int} {b:List Nat} {es:List (Ex)} (i:Nat) (d:Ex) (hi:es[i]?=some d):Dg ds a (es.drop i) c b=(cond (!(((Ay ds a d)).2)) (([],7)) (cond (Al ((ds.getD ((Ay ds a d)).1 default))) (Dg ds a (es.drop (i + 1)) c (b++[((Ay ds a d)).1])) (Dg ds a (es.drop (i + 1)) c b))):=by
 have hl:i < es.length:=(List.getElem?_eq_some_iff.1 hi).1
 have he:es[i]=d:=(List.getElem?_eq_some_iff.1 hi).2
 rw [← List.getElem_cons_drop hl,Dg] <;> (try rw [he])
def Cf (ds:List (Df)) (act:List (Nat)) (i:Nat):List Nat×Int:=Dg ds act ((BU [] ((ds.getD i default).body))) 0 ([])
noncomputable def WP:Code:=Tryz.f58.body.getD .skip
def mf:=AA (Ak Aa 90 ([.code WP])) ([.code WP])
def yF:=AA (Ak (Fw 53) 90 (AC mf)) (AC mf)
def yE:=AA 60 (AC (yF))
def cz:=AA 60 (AC yE)
def cy:=AA 60 (Ao cz)
def yD:=AA (Ak Aa 90 (AD cy)) (AD cy)
def yC:=AA 60 (AC (AC yD))
def cw:=AA 60 (AC yC)
def ADU:=AA 60 (AD cw)
def yB:=AA (Ak Aa 90 (AF cw)) (AF cw)
def sI:=AA 60 (AC (AC yB))
def dB:=AA 60 (AC sI)
def sH:=AA (Ak BS 90 (AD dB)) (AD dB)
def sG:=AA 60 (AF cy)
def sF:=AA 60 (AC sG)
def ABz:=AA 60 (AC sF)
theorem RV (v:List UInt8) (z0:Option Addr) (ds:List (Df)) (m:Nat) (c0:Option Addr) (a:List (Nat)) (j0 i:Nat) (w:World) (a1:rowsDf w z0 ds) (s2:ds.length≤4294967296) (e1:rowsNat w c0 a) (k2:a.length≤4294967296) (a0:i < ds.length) (d1:∀ i∈a,i < ds.length) (a2:∀ d∈ds,DR d.body) (hn:∀ d∈ds,nE d.body≤1000000):Calls Tryz.prog 58 ([.agg ⟨[By v,.slice z0 ds.length m]⟩,.slice c0 a.length j0,AI ((i:Int))]:List Value).toArray w fun e w'=>∃ (v1:Option Addr) (u1:Nat),e=.returned (.tuple #[.slice v1 ((((Cf ds a i)).1).length) u1,AI (((Cf ds a i)).2)])∧Below w.heap.size w w'∧Ac w.heap.size w' [BN v1 u1 (((Cf ds a i)).1)]:=by
 refine AR (fn:=Tryz.f58) (c:=WP) (n:=49) ?_
 have K1:=Wk.start w
 obtain ⟨p,q,rfl,b1,c1⟩:=a1.all (by omega)
 have u2:ds[i]?=some (ds.getD i default):=getD_some default a0
 obtain ⟨g3,a3,g0,d0,z1,z2,i1⟩:=c1 i _ u2
 refine CA Aa mf [⟨w.heap.size,0,[By v,.slice (some ⟨p,q,none⟩) ds.length m],27,true⟩] K1 [(0,1)] fun w1 K2=>?_
 refine Au (g:=p) (off:=q) (cap:=m) (sz:=21) (k:=i) (len:=ds.length) (some 16) a0 Tryz.underlying25 ?_
 refine Ae (Fw 53) yF K2 [] fun w2 K3=>?_
 refine BI 53 p (q + i * 21 + 8) [AI ((ds.getD i default).body.op),AI ((ds.getD i default).body.num),AI ((ds.getD i default).body.den),AI ((ds.getD i default).body.mu),AI ((ds.getD i default).body.hu),AI ((ds.getD i default).body.du),By ((ds.getD i default).body.nm),AI ((ds.getD i default).body.cnt),AI ((ds.getD i default).body.md),.slice g0 ((ds.getD i default).body.ks.length) d0] (some 18) (Pj (Ab z1 b1 K3.B) 8 _ rfl) ?_
 refine AB yE K3 [] fun w3 K4=>?_
 have K5:=K4.addNil 53 10 (Cz Ca w)
 have Kf:=(K5.pickL (L':=[(FL w none 0 ([]))]++[]) [0] rfl (by decide)).front
 refine A7 (args:=[.slice none 0 0,.agg ⟨[AI ((ds.getD i default).body.op),AI ((ds.getD i default).body.num),AI ((ds.getD i default).body.den),AI ((ds.getD i default).body.mu),AI ((ds.getD i default).body.hu),AI ((ds.getD i default).body.du),By ((ds.getD i default).body.nm),AI ((ds.getD i default).body.cnt),AI ((ds.getD i default).body.md),.slice g0 ((ds.getD i default).body.ks.length) d0]⟩]) (VU _ _ none [] 0 ((ds.getD i default).body) g0 d0 w w3 i1 (Nat.le_refl _) (a2 _ (Dt a0)) (by have:=hn _ (Dt a0); simp only [List.length_nil]; omega) K5.B Kf) fun en w5 hh=>?_
 obtain ⟨u,o,rfl,b5,Hn⟩:=hh
 refine ⟨_,rfl,?_⟩
 have K6:=Wk.unfront b5 Hn
 have v4:=Ph ((ds.getD i default).body)
 have t4:=hn _ (Dt a0)
 refine AB cz K6 [] fun w6 K7=>?_
 have K8:Wk w w6 [⟨w.heap.size,0,[By v,.slice (some ⟨p,q,none⟩) ds.length m],27,true⟩] [(FL w u o ((BU [] ((ds.getD i default).body))))] []:=K7.pk [0] [0]
 have K9:=K8.addNil 3 1 (fun e r=>r=FV e)
 have x:(Cf ds a i)=Dg ds a ((BU [] ((ds.getD i default).body))) 0 ([]):=by unfold Cf; rfl
 refine AU [(1,.slice c0 a.length j0),(3,BY (w.heap.size)),(6,.slice none 0 0),(7,AI 0),(8,.slice none 0 0),(19,.slice u (((BU [] ((ds.getD i default).body))).length) o),(20,AI ((((BU [] ((ds.getD i default).body))).length:Int))),(21,AI (((0:Nat):Int)))] fun E7=>?_
 refine Bd (by kernel_rfl) (fun E r1=>∃ (t:Nat) (s:Int) (b:List Nat) (j:Option Addr) (f:Nat) (E0:Nat→Value),t≤((BU [] ((ds.getD i default).body))).length∧E=BC E0 [(1,.slice c0 a.length j0),(3,BY (w.heap.size)),(6,.slice none 0 0),(7,AI s),(8,.slice j b.length f),(19,.slice u (((BU [] ((ds.getD i default).body))).length) o),(20,AI ((((BU [] ((ds.getD i default).body))).length:Int))),(21,AI ((t:Int)))]∧(Cf ds a i)=Dg ds a (List.drop t ((BU [] ((ds.getD i default).body)))) s b∧b.length≤1 * t + 0∧Wk w r1 [⟨w.heap.size,0,[By v,.slice (some ⟨p,q,none⟩) ds.length m],27,true⟩] [(FL w u o ((BU [] ((ds.getD i default).body)))),(BN j f b)] []) (fun E _=>((BU [] ((ds.getD i default).body))).length - AK (E 21)) ⟨0,0,([]),none,0,E7,Nat.zero_le _,rfl,x,by simp,K9⟩ ?_
 clear x
 rintro E r1 ⟨t,s,b,j,f,E0,w4,rfl,x,x2,t3⟩ b0
 refine AB cy t3 [] fun w9 s0=>?_
 refine AG (decide ((t:Int) < (((BU [] ((ds.getD i default).body))).length:Int))) (fun m1=>?_) (fun m1=>?_)
 ·have h0:t < (BU [] ((ds.getD i default).body)).length:=by have:=of_decide_eq_true m1; omega
  obtain ⟨l,c2⟩:∃ e,((BU [] ((ds.getD i default).body)))[t]?=some e:=⟨_,List.getElem?_eq_getElem h0⟩
  rw [Qk t l c2] at x
  obtain ⟨k0,rfl,z3⟩:=s0.H.rowAt (s0.ix 0) (s0.at 0 rfl) (by omega)
  refine Ae Aa yD s0 [] fun t1 x0=>?_
  refine Au (g:=k0) (off:=0) (cap:=o) (sz:=10) (k:=t) (len:=((BU [] ((ds.getD i default).body))).length) (some 23) h0 Tryz.underlying51 ?_
  obtain ⟨r9,r2,v2⟩:=x0.H.cells (fun _ _ h=>Xd h) (x0.ix 0) (x0.at 0 rfl) c2
  obtain ⟨z,y,rfl,h1⟩:=kK r2
  refine BI 53 k0 (0 + t * 10) [AI l.op,AI l.num,AI l.den,AI l.mu,AI l.hu,AI l.du,By (l.nm),AI l.cnt,AI l.md,.slice z l.ks.length y] (some 24) v2 ?_
  refine Af yC [⟨w.heap.size,0,[By v,.slice (some ⟨p,q,none⟩) ds.length m],27,true⟩,⟨t1.heap.size,0,(AW l z y),53,true⟩] x0 [(1,0),(0,0),(1,0)] fun q2 w0=>?_
  refine A7 (Wv v (some ⟨p,q,none⟩) ds m c0 a j0 l z y q2 (a1.below w0.B) (by first | assumption | omega | (simp <;> omega)) (e1.below w0.B) (by first | assumption | omega | (simp <;> omega)) (h1.below w0.B) d1) fun en q4 hh=>?_
  obtain ⟨rfl,f3⟩:=hh
  refine ⟨_,rfl,?_⟩
  have r3:=w0.below f3
  refine AB cw r3 [] fun p4 i2=>?_
  refine AG (!(((Ay ds a l)).2)) (fun v0=>?_) (fun v0=>?_)
  ·have q3:=i2.addNil 3 1 (fun e r=>r=FV e)
   refine AB ADU q3 [] fun k4 p1=>?_
   have hS:(Cf ds a i)=([],7):=by rw [x,v0] <;> rfl
   exact AJ p1 (0,0) (.tuple #[.slice none 0 0,AI 7]) ⟨none,0,by rw [hS] <;> rfl,p1.B,by rw [hS]; exact p1.own0 [2] rfl (by decide)⟩
  ·have t2:ds[((Ay ds a l)).1]?=some (ds.getD ((Ay ds a l)).1 default):=getD_some default (Lm d1 (by assumption))
   obtain ⟨q0,m0,p0,l0,x1,g1,f1⟩:=c1 ((Ay ds a l)).1 _ t2
   refine Ae Aa yB i2 [(0,1)] fun h4 h2=>?_
   refine Au (g:=p) (off:=q) (cap:=m) (sz:=21) (k:=(((Ay ds a l)).1)) (len:=ds.length) (some 37) (Lm d1 (by assumption)) Tryz.underlying25 ?_
   refine BI 59 p (q + ((Ay ds a l)).1 * 21) [AI ((ds.getD ((Ay ds a l)).1 default).kind),By ((ds.getD ((Ay ds a l)).1 default).name),.bool ((ds.getD ((Ay ds a l)).1 default).tb),AI ((ds.getD ((Ay ds a l)).1 default).tm),AI ((ds.getD ((Ay ds a l)).1 default).th),AI ((ds.getD ((Ay ds a l)).1 default).td),AI ((ds.getD ((Ay ds a l)).1 default).frm),.slice q0 ((ds.getD ((Ay ds a l)).1 default).ents.length) m0,AI ((ds.getD ((Ay ds a l)).1 default).body.op),AI ((ds.getD ((Ay ds a l)).1 default).body.num),AI ((ds.getD ((Ay ds a l)).1 default).body.den),AI ((ds.getD ((Ay ds a l)).1 default).body.mu),AI ((ds.getD ((Ay ds a l)).1 default).body.hu),AI ((ds.getD ((Ay ds a l)).1 default).body.du),By ((ds.getD ((Ay ds a l)).1 default).body.nm),AI ((ds.getD ((Ay ds a l)).1 default).body.cnt),AI ((ds.getD ((Ay ds a l)).1 default).body.md),.slice p0 ((ds.getD ((Ay ds a l)).1 default).body.ks.length) l0,AI ((ds.getD ((Ay ds a l)).1 default).mode),AI ((ds.getD ((Ay ds a l)).1 default).num),AI ((ds.getD ((Ay ds a l)).1 default).den)] (some 38) (Ab x1 b1 h2.B) ?_
   refine AB sI h2 [] fun p2 o1=>?_
   refine AQ o1 (GU ((ds.getD ((Ay ds a l)).1 default)) q0 m0 p0 l0 p2 (g1.below o1.B) (f1.below o1.B)) fun g4 p3=>?_
   refine AB dB p3 [] fun s1 g2=>?_
   refine AG (Al ((ds.getD ((Ay ds a l)).1 default))) (fun l1=>?_) (fun l1=>?_)
   ·refine CA BS sH [⟨w.heap.size,0,[By v,.slice (some ⟨p,q,none⟩) ds.length m],27,true⟩,⟨t1.heap.size,0,(AW l z y),53,true⟩,⟨s1.heap.size,0,[AI ((((Ay ds a l)).1:Int))],3,true⟩] g2 [] fun f4 r0=>?_
    refine Cg r0.H (r0.ix 1) (r0.at 1 rfl) (((Ay ds a l)).1) [AI ((((Ay ds a l)).1:Int))] rfl (s1.heap.size) (r0.ent 2 (by kernel_rfl)) (Br sH) (by kernel_rfl) (.tmp 40) (.tmp 42) 22 (by kernel_rfl) (by kernel_rfl) (by kernel_rfl) (by decide) (by kernel_rfl) (by kernel_rfl) rfl rfl (by ((try simp only [maxLen,List.length_append,List.length_cons,List.length_nil,List.length_singleton]) <;> omega)) fun q1 k1 e4 Hn e3=>?_
    have o3:=r0.put 1 (by simp) e3 Hn
    refine AB (AY cz) o3 [] fun o2 n3=>?_
    refine AU [(1,.slice c0 a.length j0),(3,BY (w.heap.size)),(6,.slice none 0 0),(7,AI s),(8,.slice q1 ((b++[((Ay ds a l)).1]).length) k1),(19,.slice (IN k0) (((BU [] ((ds.getD i default).body))).length) o),(20,AI ((((BU [] ((ds.getD i default).body))).length:Int))),(21,AI (IntKind.i64.wrap ((t:Int) + 1)))] fun x3=>?_
    have m3:Wk w o2 [⟨w.heap.size,0,[By v,.slice (some ⟨p,q,none⟩) ds.length m],27,true⟩] [(FL w (IN k0) o ((BU [] ((ds.getD i default).body)))),(BN q1 k1 (b++[((Ay ds a l)).1]))] []:=n3.pk [0] [0,1]
    rw [Bc t (by omega)]
    refine b0 _ _ ⟨t + 1,s,(b++[((Ay ds a l)).1]),q1,k1,x3,h0,rfl,by rw [x,v0,l1] <;> rfl,by ((try simp only [maxLen,List.length_append,List.length_cons,List.length_nil,List.length_singleton]) <;> omega),m3⟩ ?_
    show ((BU [] ((ds.getD i default).body))).length - AK (AI ((t + 1:Nat):Int)) < ((BU [] ((ds.getD i default).body))).length - AK (AI (t:Int))
    simp only [AK]
    omega
   ·refine AB (AY cz) g2 [] fun n2 l3=>?_
    refine AU [(1,.slice c0 a.length j0),(3,BY (w.heap.size)),(6,.slice none 0 0),(7,AI s),(8,.slice j b.length f),(19,.slice (IN k0) (((BU [] ((ds.getD i default).body))).length) o),(20,AI ((((BU [] ((ds.getD i default).body))).length:Int))),(21,AI (IntKind.i64.wrap ((t:Int) + 1)))] fun v3=>?_
    have k3:Wk w n2 [⟨w.heap.size,0,[By v,.slice (some ⟨p,q,none⟩) ds.length m],27,true⟩] [(FL w (IN k0) o ((BU [] ((ds.getD i default).body)))),(BN j f b)] []:=l3.pk [0] [0,1]
    rw [Bc t (by omega)]
    refine b0 _ _ ⟨t + 1,s,b,j,f,v3,h0,rfl,by rw [x,v0,l1] <;> rfl,by ((try simp only [maxLen,List.length_append,List.length_cons,List.length_nil,List.length_singleton]) <;> omega),k3⟩ ?_
    show ((BU [] ((ds.getD i default).body))).length - AK (AI ((t + 1:Nat):Int)) < ((BU [] ((ds.getD i default).body))).length - AK (AI (t:Int))
    simp only [AK]
    omega
 ·have b2:t=(BU [] ((ds.getD i default).body)).length:=by have:=of_decide_eq_false m1; omega
  rw [b2,List.drop_length,Rt] at x
  refine AB sG s0 [] fun m2 e2=>?_
  have Kf:=(e2.pickL (L':=[(BN j f b)]++[(FL w u o ((BU [] ((ds.getD i default).body))))]) [1,0] rfl (by decide)).front
  refine A7 (args:=[.slice j b.length f]) (m4 _ j b f w m2 (by omega) e2.B Kf) fun en c4 hh=>?_
  obtain ⟨rfl,c3,Hn⟩:=hh
  refine ⟨_,rfl,?_⟩
  have i3:=Wk.unfront c3 Hn
  refine AB sF i3 [] fun l2 d2=>?_
  have Kf:=(d2.pickL (L':=[(BN j f (Fu b))]++[(FL w u o ((BU [] ((ds.getD i default).body))))]) [0,1] rfl (by decide)).front
  refine A7 (args:=[.slice j b.length f]) (W6 _ j (Fu b) f w l2 (by simp only [KN]; omega) (KN _) d2.B Kf) fun en b4 hh=>?_
  obtain ⟨t0,n0,rfl,b3,Hn⟩:=hh
  refine ⟨_,rfl,?_⟩
  have h3:=Wk.unfront b3 Hn
  refine AB ABz h3 [] fun a4 n1=>?_
  have hS:(Cf ds a i)=((ES (Fu b)),0):=by rw [x] <;> rfl
  exact AJ n1 (0,0) (.tuple #[.slice t0 (((ES (Fu b))).length) n0,AI 0]) ⟨t0,n0,by rw [hS] <;> rfl,n1.B,by rw [hS]; exact n1.own0 [0] rfl (by decide)⟩
end
end Go.Proofs.YtkjbdagicjbjjaaGreat

/-
  Part 9 of a proof: contracts of functions.
-/
import Derived.Test.YtmcpjkcggfmcmaaGreatDoorD05
import Derived.Lib.Builder
set_option linter.all false
namespace Go.Proofs.YtmcpjkcggfmcmaaGreatDoor
open Go.RowKit
set_option maxHeartbeats 1000000 in
theorem Vt (v n:Int) (w:World) (h0:-9223372036854775808≤v) (h1:v≤9223372036854775807) (hn:1≤n) (hn2:n≤2000000000000) :
  Calls Tryz.prog 6 #[D v,D n] w fun e w'=>e=.returned (D (v % n))∧w=w':=by
 have hm0:=Int.emod_nonneg v (show n≠0 by omega)
 have hm1:=Int.emod_lt_of_pos v (show 0 < n by omega)
 have gn:(n == 0)=false:=by simp; omega
 by_cases hv:0≤v
 ·go_enter Tryz.func6,Tryz.ntmps6
  go_wp2_with fail
  go_ret
  exact ⟨rfl,rfl⟩
 ·by_cases hd:n∣v
  ·have ht:v.tmod n=0:=Int.tmod_eq_zero_of_dvd hd
   have HR:Hid (v % n=0):=Int.emod_eq_zero_of_dvd hd
   clear hd
   go_enter Tryz.func6,Tryz.ntmps6
   go_wp2_with fail
   go_ret
   exact ⟨Hi HR.out.symm,rfl⟩
  ·obtain ⟨r,hr⟩:∃ r,v % n=r:=⟨_,rfl⟩
   have ht:v.tmod n=r - n:=by
    rw [Int.tmod_eq_emod,if_neg (by omega),hr]
    omega
   rw [hr] at hm0 hm1
   have HR:=Lib.hid hr
   clear hd hr
   go_enter Tryz.func6,Tryz.ntmps6
   go_wp2_with fail
   go_ret
   exact ⟨Hi (by rw [HR.out]),rfl⟩
end Go.Proofs.YtmcpjkcggfmcmaaGreatDoor
namespace Go.Proofs.YtmcpjkcggfmcmaaGreatDoor
open Go.RowKit
structure Ae (b:Nat) (w w':World):Prop where
 os:w'.os=w.os
 tape:w'.tape=w.tape
 output:w'.output=w.output
 size:w.heap.size≤w'.heap.size
 block:∀ k,k < w.heap.size→k≠b→w'.heap[k]?=w.heap[k]?
theorem Ae.refl (b:Nat) (w:World):Ae b w w:=⟨rfl,rfl,rfl,Nat.le_refl _,fun _ _ _=>rfl⟩
theorem Ae.trans {b:Nat} {u v w:World} (h:Ae b u v) (k:Ae b v w):Ae b u w:=
 ⟨k.os.trans h.os,k.tape.trans h.tape,k.output.trans h.output,Nat.le_trans h.size k.size,fun i hi hb=>(k.block i (Nat.lt_of_lt_of_le hi h.size) hb).trans (h.block i hi hb)⟩
theorem Ae.of_below {b:Nat} {w w':World} (h:Below w.heap.size w w'):Ae b w w':=⟨h.os,h.tape,h.output,h.size,fun k a _=>h.block k a⟩
theorem Ae.alloc {b:Nat} {u w:World} (h:Ae b u w) (o:Obj):Ae b u (w.alloc o):=
 h.trans (.of_below ((Below.refl _ _).alloc (Nat.le_refl _) _))
theorem Ae.drew {b:Nat} {u w:World} (h:Ae b u w):Ae b u w.drew:=h.trans (.of_below (Below.refl _ _).drew)
theorem Ae.drewN {b:Nat} {u w:World} (h:Ae b u w) (n:Nat):Ae b u (w.drewN n):=⟨h.os,h.tape,h.output,h.size,h.block⟩
theorem Ae.setCell {b:Nat} {u w:World} (h:Ae b u w) {p:Addr} (a:p.block=b) (x:Value):Ae b u (w.setCell p x):=
 h.trans ⟨rfl,rfl,rfl,by simp [World.setCell],fun k _ c=>Below.heap_setCell _ _ _ _ (by rw [a]; exact c)⟩
theorem Ae.below {b B:Nat} {w w':World} (h:Ae b w w') (c:B≤b) (hs:B≤w.heap.size):Below B w w':=
 ⟨h.os,h.tape,h.output,h.size,fun k a=>h.block k (by omega) (by omega)⟩
theorem Ae.cell {b:Nat} {w w':World} (h:Ae b w w') {p:Addr} (a:p.block < w.heap.size) (hb:p.block≠b):w'.cell? p=w.cell? p:=
 World.cell?_of_block (w:=w) (h.block p.block a hb)
def He (w:World) (b:Nat) (v:Value) (ns:List Int):Prop:=
 ∃ A c,v=.slice A ns.length c∧ns.length≤maxLen∧(∀ x∈ns,-9223372036854775808≤x∧x≤9223372036854775807)∧
  (0 < ns.length→∃ g off,A=some ⟨g,off,none⟩∧g < b∧∀ i (h:i < ns.length),w.cell? ⟨g,off + i,none⟩=some (D ns[i]))
def Bl (b:Nat) (ns:List Int) (w:World):Prop:=
 ∃ (v:Value) (k:Nat),k≤ns.length∧w.heap[b]?=some (.cells #[v,D k] 86 (0,0))∧He w b v ns
theorem Ak {w:World} {b:Nat} {o:Obj} (h:w.heap[b]?=some o):b < w.heap.size:=by
 rcases Nat.lt_or_ge b w.heap.size with a | a
 ·exact a
 ·rw [Array.getElem?_eq_none a] at h; cases h
theorem Bl.lt {b:Nat} {ns:List Int} {w:World} (h:Bl b ns w):b < w.heap.size:=by
 obtain ⟨v,k,_,hb,_⟩:=h
 exact Ak hb
theorem He.keep {w w':World} {b:Nat} {v:Value} {ns:List Int} (h:He w b v ns) (a:∀ g,g < b→w'.heap[g]?=w.heap[g]?):He w' b v ns:=by
 obtain ⟨A,c,rfl,e,h2,d⟩:=h
 refine ⟨A,c,rfl,e,h2,fun hn=>?_⟩
 obtain ⟨g,off,rfl,hg,hc⟩:=d hn
 exact ⟨g,off,rfl,hg,fun i hi=>by rw [World.cell?_of_block (w:=w) (a g hg)]; exact hc i hi⟩
theorem Bl.below {b:Nat} {ns:List Int} {w w':World} (h:Bl b ns w) (hb:Below w.heap.size w w'):Bl b ns w':=by
 have a:=h.lt
 obtain ⟨v,k,c,hc,hi⟩:=h
 exact ⟨v,k,c,(hb.block b a).trans hc,hi.keep (fun g hg=>hb.block g (by omega))⟩
def iu (b:Nat) (ns:List Int) (n:Int) (w:World) (e:Ending) (w':World):Prop:=
 ∃ k:Nat,(k=0∨(k:Int) < n)∧e=.returned (D k)∧Bl b ns w'∧Ae b w w'
end Go.Proofs.YtmcpjkcggfmcmaaGreatDoor
namespace Go.Proofs.YtmcpjkcggfmcmaaGreatDoor
open Go.RowKit
theorem Bl.drewN {b:Nat} {ns:List Int} {w:World} (h:Bl b ns w) (n:Nat):Bl b ns (w.drewN n):=h.below (dx (Below.refl _ _) n)
theorem Yx {w:World} {b i:Nat} {cs:Array Value} {t:TypeId} {fr:Nat×Nat} (h:w.heap[b]?=some (.cells cs t fr)) (x:Value):(w.setCell ⟨b,i,none⟩ x).heap[b]?=some (.cells (cs.setIfInBounds i x) t fr):=by
 simp [World.setCell,Array.getElem?_modify,h]
set_option maxHeartbeats 1000000 in
set_option maxRecDepth 100000 in
theorem CE (b:Nat) (ns:List Int) (n:Int) (w:World) (h:Bl b ns w) (hn0:-9223372036854775808≤n) (hn:n≤2000000000000) :
  Calls Tryz.prog 35 #[.pointer (some ⟨b,0,none⟩),D n] w (iu b ns n w):=by
 have HT:=Lib.hid h
 have hlt:=h.lt
 obtain ⟨v,k,hk,hb,hi⟩:=h
 obtain ⟨A,c,rfl,hm,hx,hc⟩:=hi
 have HB:=Lib.hid hb
 have c0:=Lib.cell_of_heap hb 0
 have c1:=Lib.cell_of_heap hb 1
 simp only [List.getElem?_toArray,List.getElem?_cons_zero,List.getElem?_cons_succ] at c0 c1
 have f1:=Lib.frozen_of_heap hb 1
 unfold maxLen at hm
 clear hb
 by_cases h1:n < 1
 ·clear hc hx
  go_enter Tryz.func35,Tryz.ntmps35
  go_wp2_with fail
  go_quiet (fail)
  go_wp2_with fail
  go_ret
  exact ⟨0,.inl rfl,rfl,HT.out.drewN _,(Ae.refl _ _).drewN _⟩
 ·have hd1:decide (n < 1)=false:=decide_eq_false h1
  by_cases h2:ns.length≤k
  ·have hd2:decide (ns.length≤k)=true:=decide_eq_true h2
   clear hc hx
   go_enter Tryz.func35,Tryz.ntmps35
   go_wp2_with fail
   go_quiet (fail)
   go_wp2_with fail
   go_ret
   exact ⟨0,.inl rfl,rfl,HT.out.drewN _,(Ae.refl _ _).drewN _⟩
  ·have hd2:decide (ns.length≤k)=false:=decide_eq_false h2
   obtain ⟨g,off,rfl,hg,hcell⟩:=hc (by omega)
   have hck:=hcell k (by omega)
   obtain ⟨x,hx0⟩:∃ x,ns[k]=x:=⟨_,rfl⟩
   have hxb:=hx ns[k] (List.getElem_mem _)
   rw [hx0] at hck hxb
   obtain ⟨hxl,hxu⟩:=hxb
   clear hx hx0 hc hcell
   go_enter Tryz.func35,Tryz.ntmps35
   go_wp2_with fail
   go_quiet (fail)
   go_wp2_with fail
   have hb1:((w.drewN nq).setCell ⟨b,1,none⟩ (D ((k:Int) + 1))).heap[b]?=some (.cells #[.slice (some ⟨g,off,none⟩) ns.length c,D ((k:Int) + 1)] 86 (0,0)):=Yx (w:=w.drewN nq) (i:=1) HB.out _
   have hck1:((w.drewN nq).setCell ⟨b,1,none⟩ (D ((k:Int) + 1))).cell? ⟨g,off + k,none⟩=some (D x):=by
    rw [World.cell?_of_block (w:=w) (Below.heap_setCell (w.drewN nq) _ _ _ (by simp; omega))]
    exact hck
   have hB1:Ae b w ((w.drewN nq).setCell ⟨b,1,none⟩ (D ((k:Int) + 1))):=((Ae.refl b w).drewN nq).setCell rfl _
   clear c0 c1 f1 hck hd1 hd2
   generalize (w.drewN nq).setCell ⟨b,1,none⟩ (D ((k:Int) + 1))=w1 at *
   have HT1:Hid (Bl b ns w1):=by
    obtain ⟨v,k',hk',hb',hi⟩:=HT.out
    refine ⟨_,k + 1,by omega,hb1,?_⟩
    have hv:v=.slice (some ⟨g,off,none⟩) ns.length c:=by
     have:=HB.out
     rw [hb'] at this
     simp at this
     exact this.1
    rw [← hv]
    exact hi.keep (fun g hg=>hB1.block g (by omega) (by omega))
   have c0:=Lib.cell_of_heap hb1 0
   have c1:=Lib.cell_of_heap hb1 1
   simp only [List.getElem?_toArray,List.getElem?_cons_zero,List.getElem?_cons_succ] at c0 c1
   clear hb1 HB HT
   have hkn:(k:Int) < ns.length:=by omega
   go_quiet ((go_at_call 6; exact PO (Vt _ _ _ (by omega) (by omega) (by omega) (by omega))))
   go_wp2_with fail
   go_ret
   have hm0:=Int.emod_nonneg x (show n≠0 by omega)
   have hm1:=Int.emod_lt_of_pos x (show 0 < n by omega)
   obtain ⟨r,hr⟩:=Int.eq_ofNat_of_zero_le hm0
   exact ⟨r,.inr (by omega),Hi hr,HT1.out.drewN _,hB1.drewN _⟩
theorem VE (v:Value) (ns:List Int) (w:World) (h:He w w.heap.size v ns) :
  Calls Tryz.prog 11 #[v] w fun e w'=>e=.returned (.pointer (some ⟨w.heap.size,0,none⟩))∧Bl w.heap.size ns w'∧w.heap.size < w'.heap.size∧Below w.heap.size w w':=by
 have a:=Lib.hid h
 obtain ⟨A,c,rfl,_⟩:=h
 go_enter Tryz.func11,Tryz.ntmps11
 go_wp2_with fail
 go_ret
 refine ⟨rfl,⟨_,0,Nat.zero_le _,heap_alloc_new w _,a.out.keep (fun g hg=>Below.heap_alloc _ _ _ hg)⟩,by simp,(Below.refl _ _).alloc (Nat.le_refl _) _⟩
end Go.Proofs.YtmcpjkcggfmcmaaGreatDoor
namespace Go.Proofs.YtmcpjkcggfmcmaaGreatDoor
open Go.RowKit
theorem Ae.setNew {b:Nat} {u w:World} (h:Ae b u w) {p:Addr} (c:u.heap.size≤p.block) (x:Value):Ae b u (w.setCell p x):=
 ⟨h.os,h.tape,h.output,Nat.le_trans h.size (by simp [World.setCell]),fun k a hb=>(Below.heap_setCell _ _ _ _ (by omega)).trans (h.block k a hb)⟩
theorem Bl.setCell {b:Nat} {ns:List Int} {w:World} (h:Bl b ns w) {p:Addr} (c:b < p.block) (x:Value):Bl b ns (w.setCell p x):=by
 obtain ⟨v,k,a,hc,hi⟩:=h
 exact ⟨v,k,a,(Below.heap_setCell _ _ _ _ (by omega)).trans hc,hi.keep (fun g hg=>Below.heap_setCell _ _ _ _ (by omega))⟩
theorem Bl.alloc {b:Nat} {ns:List Int} {w:World} (h:Bl b ns w) (o:Obj):Bl b ns (w.alloc o):=h.below ((Below.refl _ _).alloc (Nat.le_refl _) _)
inductive Ex where
 | mk (op num den mu hu du:Int) (name:List UInt8) (count mode:Int) (kids:List Ex):Ex
def G5 (lo:Nat) (w:World) (n:Nat) (A:Option Addr) (rs:List (List Value)):Prop:=
 rs=[]∨∃ g off,A=some ⟨g,off,none⟩∧lo≤g∧∀ (i:Nat) r,rs[i]?=some r→∀ (j:Nat) u,r[j]?=some u→w.cell? ⟨g,off + i * n + j,none⟩=some u
mutual
def BX (lo:Nat) (w:World):Ex→List Value→Prop
 | .mk op num den mu hu du name count mode kids,cs=>∃ A c ks,cs=[D op,D num,D den,D mu,D hu,D du,.string ⟨name.toArray⟩,D count,D mode,.slice A kids.length c]∧
   Bm lo w kids ks∧G5 lo w 10 A ks
def Bm (lo:Nat) (w:World):List Ex→List (List Value)→Prop
 | [],ks=>ks=[]
 | e :: es,ks=>∃ c cs,ks=c :: cs∧BX lo w e c∧Bm lo w es cs
end
theorem UT (rs:List (List Value)) (n:Nat) (h:∀ r∈rs,r.length=n) (i j:Nat) (r:List Value) (hi:rs[i]?=some r) (b:j < n):rs.flatten[i * n + j]?=r[j]?:=by
 induction rs generalizing i with
 | nil=>simp at hi
 | cons a rs ih=>
  have ha:=h a (by simp)
  cases i with
  | zero=>
   simp at hi
   subst hi
   rw [List.flatten_cons,List.getElem?_append_left (by omega)]
   simp
  | succ i=>
   simp at hi
   rw [List.flatten_cons,List.getElem?_append_right (by rw [ha,Nat.succ_mul]; omega),ha,show (i + 1) * n + j - n=i * n + j by rw [Nat.succ_mul]; omega]
   exact ih (fun r hr=>h r (by simp [hr])) i hi
theorem Yz {lo n g:Nat} {w:World} {T:TypeId} {fr:Nat×Nat} {rs:List (List Value)} (h:w.heap[g]?=some (.cells rs.flatten.toArray T fr)) (hl:∀ r∈rs,r.length=n) (hg:lo≤g):G5 lo w n (some ⟨g,0,none⟩) rs:=by
 refine .inr ⟨g,0,rfl,hg,fun i r hi j u b=>?_⟩
 have hr:=hl r (List.mem_of_getElem? hi)
 have a:j < n:=by
  rcases Nat.lt_or_ge j r.length with c | c
  ·omega
  ·rw [List.getElem?_eq_none c] at b; cases b
 rw [Lib.cell_of_heap h,List.getElem?_toArray,Nat.zero_add,UT rs n hl i j r hi a]
 exact b
def Dx (lo:Nat) (w w':World):Prop:=∀ g,lo≤g→g < w.heap.size→w'.heap[g]?=w.heap[g]?
theorem Dx.of_but {b lo:Nat} {w w':World} (h:Ae b w w') (hb:b < lo):Dx lo w w':=fun g hg hs=>h.block g hs (by omega)
theorem Dx.of_below {lo:Nat} {w w':World} (h:Below w.heap.size w w'):Dx lo w w':=fun g _ hs=>h.block g hs
theorem Dx.setCell {lo:Nat} {w w':World} (h:Dx lo w w') {p:Addr} (a:p.block < lo) (x:Value):Dx lo w (w'.setCell p x):=fun g hg hs=>(Below.heap_setCell _ _ _ _ (by omega)).trans (h g hg hs)
theorem G5.keep {lo n:Nat} {w w':World} {A:Option Addr} {rs:List (List Value)} (h:G5 lo w n A rs) (hb:Dx lo w w'):G5 lo w' n A rs:=by
 rcases h with h | ⟨g,off,rfl,hg,hc⟩
 ·exact .inl h
 ·refine .inr ⟨g,off,rfl,hg,fun i r hi j u a=>?_⟩
  have:=hc i r hi j u a
  rw [World.cell?_of_block (w:=w) (hb g hg (World.block_lt_of_cell? w _ this))]
  exact this
theorem G5.mono {lo a n:Nat} {w:World} {A:Option Addr} {rs:List (List Value)} (h:G5 lo w n A rs) (hl:a≤lo):G5 a w n A rs:=by
 rcases h with h | ⟨g,off,rfl,hg,hc⟩
 ·exact .inl h
 ·exact .inr ⟨g,off,rfl,by omega,hc⟩
mutual
theorem BX.keep {lo:Nat} {w w':World} (hb:Dx lo w w'):∀ (e:Ex) (cs:List Value),BX lo w e cs→BX lo w' e cs
 | .mk op num den mu hu du name count mode kids,cs,h=>by
  unfold BX at h ⊢
  obtain ⟨A,c,ks,b,h2,a⟩:=h
  exact ⟨A,c,ks,b,Bm.keep hb kids ks h2,a.keep hb⟩
theorem Bm.keep {lo:Nat} {w w':World} (hb:Dx lo w w'):∀ (es:List Ex) (ks:List (List Value)),Bm lo w es ks→Bm lo w' es ks
 | [],ks,h=>by unfold Bm at h ⊢; exact h
 | e :: es,ks,h=>by
  unfold Bm at h ⊢
  obtain ⟨c,cs,b,h2,a⟩:=h
  exact ⟨c,cs,b,BX.keep hb e c h2,Bm.keep hb es cs a⟩
end
mutual
theorem BX.mono {lo a:Nat} {w:World} (hl:a≤lo):∀ (e:Ex) (cs:List Value),BX lo w e cs→BX a w e cs
 | .mk op num den mu hu du name count mode kids,cs,h=>by
  unfold BX at h ⊢
  obtain ⟨A,c,ks,d,h2,b⟩:=h
  exact ⟨A,c,ks,d,Bm.mono hl kids ks h2,b.mono hl⟩
theorem Bm.mono {lo a:Nat} {w:World} (hl:a≤lo):∀ (es:List Ex) (ks:List (List Value)),Bm lo w es ks→Bm a w es ks
 | [],ks,h=>by unfold Bm at h ⊢; exact h
 | e :: es,ks,h=>by
  unfold Bm at h ⊢
  obtain ⟨c,cs,d,h2,b⟩:=h
  exact ⟨c,cs,d,BX.mono hl e c h2,Bm.mono hl es cs b⟩
end
theorem Bm.length {lo:Nat} {w:World}:∀ (es:List Ex) (ks:List (List Value)),Bm lo w es ks→ks.length=es.length
 | [],ks,h=>by unfold Bm at h; rw [h]; rfl
 | e :: es,ks,h=>by
  unfold Bm at h
  obtain ⟨c,cs,b,_,a⟩:=h
  rw [b,List.length_cons,List.length_cons,Bm.length es cs a]
theorem BX.len {lo:Nat} {w:World} {e:Ex} {cs:List Value} (h:BX lo w e cs):cs.length=10:=by
 obtain ⟨op,num,den,mu,hu,du,name,a,mode,b⟩:=e
 unfold BX at h
 obtain ⟨A,c,ks,rfl,_⟩:=h
 rfl
theorem BX.mk {lo g c:Nat} {w:World} {T:TypeId} {fr:Nat×Nat} {a:List Ex} {ks:List (List Value)} (op num den mu hu du:Int) (name:List UInt8) (b mode:Int) (d:Bm lo w a ks)
  (h:w.heap[g]?=some (.cells ks.flatten.toArray T fr)) (hl:∀ r∈ks,r.length=10) (hg:lo≤g) :
  BX lo w (.mk op num den mu hu du name b mode a) [D op,D num,D den,D mu,D hu,D du,.string ⟨name.toArray⟩,D b,D mode,.slice (some ⟨g,0,none⟩) a.length c]:=by
 unfold BX
 exact ⟨some ⟨g,0,none⟩,c,ks,rfl,d,Yz h hl hg⟩
theorem BX.leaf {lo:Nat} {w:World} (op num den mu hu du:Int) (name:List UInt8) (a mode:Int) :
  BX lo w (.mk op num den mu hu du name a mode []) [D op,D num,D den,D mu,D hu,D du,.string ⟨name.toArray⟩,D a,D mode,.slice none 0 0]:=by
 unfold BX
 exact ⟨none,0,[],rfl,by unfold Bm; rfl,.inl rfl⟩
theorem Bm.one {lo:Nat} {w:World} {e:Ex} {c:List Value} (h:BX lo w e c):Bm lo w [e] [c]:=by
 unfold Bm Bm; exact ⟨c,[],rfl,h,rfl⟩
theorem Bm.cons {lo:Nat} {w:World} {e:Ex} {es:List Ex} {c:List Value} {cs:List (List Value)} (h:BX lo w e c) (hs:Bm lo w es cs):Bm lo w (e :: es) (c :: cs):=by
 unfold Bm; exact ⟨c,cs,rfl,h,hs⟩
mutual
def Ex.height:Ex→Nat
 | .mk _ _ _ _ _ _ _ _ _ kids=>Ex.heights kids + 1
def Ex.heights:List Ex→Nat
 | []=>0
 | e :: es=>max (Ex.height e) (Ex.heights es)
end
end Go.Proofs.YtmcpjkcggfmcmaaGreatDoor
namespace Go.Proofs.YtmcpjkcggfmcmaaGreatDoor
open Go.RowKit
def DA (t:Bool×Int×Int×Int):Value:=.agg #[.bool t.1,D t.2.1,D t.2.2.1,D t.2.2.2]
def BU:Bool×Int×Int×Int:=(false,0,0,0)
def Cc:Bool×Int×Int×Int:=(false,1,0,0)
def Dj:Bool×Int×Int×Int:=(false,0,1,0)
def Cd:Bool×Int×Int×Int:=(false,1,-1,0)
def Ds:Bool×Int×Int×Int:=(true,0,0,0)
theorem F5 (w:World):Calls Tryz.prog 34 #[] w fun e w'=>e=.returned (DA BU)∧Below w.heap.size w w':=by
 go_enter Tryz.func34,Tryz.ntmps34
 go_wp2_with fail
 exact bodyPost_ret (v:=DA BU) (by simp [results,Tryz.results34,go_sem,DA,BU]) rfl ⟨rfl,(Below.refl _ _).alloc (Nat.le_refl _) _⟩
theorem EO (w:World):Calls Tryz.prog 31 #[] w fun e w'=>e=.returned (DA Cc)∧Below w.heap.size w w':=by
 go_enter Tryz.func31,Tryz.ntmps31
 go_wp2_with fail
 exact bodyPost_ret (v:=DA Cc) (by simp [results,Tryz.results31,go_sem,DA,Cc]) rfl ⟨rfl,(Below.refl _ _).alloc (Nat.le_refl _) _⟩
theorem Gf (w:World):Calls Tryz.prog 29 #[] w fun e w'=>e=.returned (DA Dj)∧Below w.heap.size w w':=by
 go_enter Tryz.func29,Tryz.ntmps29
 go_wp2_with fail
 exact bodyPost_ret (v:=DA Dj) (by simp [results,Tryz.results29,go_sem,DA,Dj]) rfl ⟨rfl,(Below.refl _ _).alloc (Nat.le_refl _) _⟩
theorem Fx (w:World):Calls Tryz.prog 33 #[] w fun e w'=>e=.returned (DA Cd)∧Below w.heap.size w w':=by
 go_enter Tryz.func33,Tryz.ntmps33
 go_wp2_with fail
 exact bodyPost_ret (v:=DA Cd) (by simp [results,Tryz.results33,go_sem,DA,Cd]) rfl ⟨rfl,(Below.refl _ _).alloc (Nat.le_refl _) _⟩
theorem Gb (w:World):Calls Tryz.prog 30 #[] w fun e w'=>e=.returned (DA Ds)∧Below w.heap.size w w':=by
 go_enter Tryz.func30,Tryz.ntmps30
 go_wp2_with fail
 exact bodyPost_ret (v:=DA Ds) (by simp [results,Tryz.results30,go_sem,DA,Ds]) rfl ⟨rfl,(Below.refl _ _).alloc (Nat.le_refl _) _⟩
def VB (b:Nat) (ns:List Int) (xs:List Int) (w:World) (e:Ending) (w':World):Prop:=
 ∃ x,x∈xs∧e=.returned (D x)∧Bl b ns w'∧Ae b w w'
set_option maxHeartbeats 400000 in
theorem I5 (b g c:Nat) (ns xs:List Int) (w:World) (h:Bl b ns w) (hg:g≠b) (hx:0 < xs.length) (hxm:xs.length≤1000) (hc:∀ (i:Nat) (x:Int),xs[i]?=some x→w.cell? ⟨g,i,none⟩=some (D x)) :
  Calls Tryz.prog 38 #[.pointer (some ⟨b,0,none⟩),.slice (some ⟨g,0,none⟩) xs.length c] w (VB b ns xs w):=by
 have HT:=Lib.hid h
 have HC:=Lib.hid hc
 clear h hc
 go_enter Tryz.func38,Tryz.ntmps38
 go_wp2_with fail
 refine (CE b ns xs.length w HT.out (by omega) (by omega)).mono ?_
 rintro e w1 ⟨k,hk,rfl,hT1,hb1⟩
 have hkl:k < xs.length:=by omega
 obtain ⟨x,hxk⟩:∃ x,xs[k]?=some x:=⟨_,List.getElem?_eq_getElem hkl⟩
 have hc0:=HC.out k x hxk
 have hc1:w1.cell? ⟨g,k,none⟩=some (D x):=by rw [hb1.cell (World.block_lt_of_cell? w _ hc0) hg]; exact hc0
 have HX:=Lib.hid (List.mem_of_getElem? hxk)
 have HT1:=Lib.hid hT1
 clear hc0 hxk hT1 hk
 go_wp2_with fail
 go_ret
 exact ⟨x,HX.out,rfl,HT1.out,hb1⟩
def Co:List (Int×Int):=[(1,1),(2,1),(0,1),(5,2),(1,4),(76,5),(40,1),(1,100),(3,1),(100,1)]
def m0 (b:Nat) (ns:List Int) (w:World) (e:Ending) (w':World):Prop:=
 ∃ x,x∈Co∧e=.returned (.agg #[D x.1,D x.2])∧Bl b ns w'∧Ae b w w'
def IP (x:Int×Int):List Value:=[D x.1,D x.2]
theorem cb (w:World) (k:Nat) (a:k < 10):∃ x,x∈Co∧(w.alloc (.cells (Co.flatMap IP).toArray 29)).cell? ⟨w.heap.size,k * 2,none⟩=some (D x.1)∧(w.alloc (.cells (Co.flatMap IP).toArray 29)).cell? ⟨w.heap.size,k * 2 + 1,none⟩=some (D x.2):=by
 rw [Lib.cell_of_heap (heap_alloc_new w _),Lib.cell_of_heap (heap_alloc_new w _),List.getElem?_toArray,List.getElem?_toArray]
 have:k=0∨k=1∨k=2∨k=3∨k=4∨k=5∨k=6∨k=7∨k=8∨k=9:=by omega
 rcases this with rfl | rfl | rfl | rfl | rfl | rfl | rfl | rfl | rfl | rfl
 ·exact ⟨(1,1),by simp [Co],rfl,rfl⟩
 ·exact ⟨(2,1),by simp [Co],rfl,rfl⟩
 ·exact ⟨(0,1),by simp [Co],rfl,rfl⟩
 ·exact ⟨(5,2),by simp [Co],rfl,rfl⟩
 ·exact ⟨(1,4),by simp [Co],rfl,rfl⟩
 ·exact ⟨(76,5),by simp [Co],rfl,rfl⟩
 ·exact ⟨(40,1),by simp [Co],rfl,rfl⟩
 ·exact ⟨(1,100),by simp [Co],rfl,rfl⟩
 ·exact ⟨(3,1),by simp [Co],rfl,rfl⟩
 ·exact ⟨(100,1),by simp [Co],rfl,rfl⟩
set_option maxHeartbeats 1000000 in
theorem Nx (b:Nat) (ns:List Int) (w:World) (h:Bl b ns w) :
  Calls Tryz.prog 40 #[.pointer (some ⟨b,0,none⟩)] w (m0 b ns w):=by
 have HT:=Lib.hid h
 have hlt:=h.lt
 clear h
 go_enter Tryz.func40,Tryz.ntmps40
 go_wp2_with fail
 change Calls _ _ _ ((w.alloc (.cells #[D 0,D 0] 29)).alloc (.cells (Co.flatMap IP).toArray 29)) _
 have HC:=Lib.hid (cb (w.alloc (.cells #[D 0,D 0] 29)))
 rw [World.size_alloc] at HC
 have hr:((w.alloc (.cells #[D 0,D 0] 29)).alloc (.cells (Co.flatMap IP).toArray 29)).heap[w.heap.size]?=some (.cells #[D 0,D 0] 29 (0,0)):=(Below.heap_alloc _ _ _ (by simp)).trans (heap_alloc_new w _)
 have hB0:Ae b w ((w.alloc (.cells #[D 0,D 0] 29)).alloc (.cells (Co.flatMap IP).toArray 29)):=((Ae.refl _ _).alloc _).alloc _
 have HT0:Hid (Bl b ns ((w.alloc (.cells #[D 0,D 0] 29)).alloc (.cells (Co.flatMap IP).toArray 29))):=HT.out.below (((Below.refl _ _).alloc (Nat.le_refl _) _).alloc (by simp) _)
 generalize (w.alloc (.cells #[D 0,D 0] 29)).alloc (.cells (Co.flatMap IP).toArray 29)=w1 at *
 refine (CE b ns 10 w1 HT0.out (by omega) (by omega)).mono ?_
 rintro e w2 ⟨k,hk,rfl,hT2,hb2⟩
 obtain ⟨⟨x1,x2⟩,hx,d0,d1⟩:=HC.out k (by omega)
 have c0:w2.cell? ⟨w.heap.size + 1,k * 2,none⟩=some (D x1):=by rw [hb2.cell (World.block_lt_of_cell? w1 _ d0) (by simp; omega)]; exact d0
 have c1:w2.cell? ⟨w.heap.size + 1,k * 2 + 1,none⟩=some (D x2):=by rw [hb2.cell (World.block_lt_of_cell? w1 _ d1) (by simp; omega)]; exact d1
 have hr2:=(hb2.block _ (Ak hr) (by omega)).trans hr
 have r0:=Lib.cell_of_heap hr2 0
 have r1:=Lib.cell_of_heap hr2 1
 simp only [List.getElem?_toArray,List.getElem?_cons_zero,List.getElem?_cons_succ] at r0 r1
 have f0:=Lib.frozen_of_heap hr2 0
 have f1:=Lib.frozen_of_heap hr2 1
 have hbw:Ae b w w2:=hB0.trans hb2
 have hkk:k < 10:=by omega
 have HX:=Lib.hid hx
 have HT2:=Lib.hid hT2
 have hsz2:=Ak hr2
 clear hx hT2 d0 d1 HC HT0 HT hr hB0 hr2 hk
 go_wp2_with fail
 refine bodyPost_ret (v:=.agg #[D x1,D x2]) (by simp [results,Tryz.results40,go_sem,r0,r1]) rfl ⟨(x1,x2),HX.out,rfl,?_,?_⟩
 ·exact (HT2.out.setCell (by simpa using hlt) _).setCell (by simpa using hlt) _
 ·exact (hbw.setNew (by simp) _).setNew (by simp) _
theorem KN {w:World} {o:Obj} {g:Nat} (h:g=w.heap.size):(w.alloc o).heap[g]?=some o:=by subst h; exact heap_alloc_new w o
def Iv (b:Nat) (ns:List Int) (P:Ex→Prop) (w:World) (e:Ending) (w':World):Prop:=
 ∃ x cs,P x∧BX w.heap.size w' x cs∧e=.returned (.agg cs.toArray)∧Bl b ns w'∧Ae b w w'
set_option maxHeartbeats 1000000 in
theorem Fv (lo:Nat) (op:Int) (x y:Ex) (cx cy:List Value) (w:World) (hlo:lo≤w.heap.size) (hx:BX lo w x cx) (hy:BX lo w y cy) :
  Calls Tryz.prog 67 #[D op,.agg cx.toArray,.agg cy.toArray] w fun e w'=>
   ∃ cs,BX lo w' (.mk op 0 0 0 0 0 [] 0 0 [x,y]) cs∧e=.returned (.agg cs.toArray)∧Below w.heap.size w w':=by
 have HX:=Lib.hid hx
 have HY:=Lib.hid hy
 obtain ⟨x0,x1,x2,x3,x4,x5,x6,x7,x8,xk⟩:=x
 obtain ⟨y0,y1,y2,y3,y4,y5,y6,y7,y8,yk⟩:=y
 unfold BX at hx hy
 obtain ⟨A,c,ks,rfl,_,_⟩:=hx
 obtain ⟨B,d,js,rfl,_,_⟩:=hy
 go_enter Tryz.func67,Tryz.ntmps67
 go_wp2_with fail
 refine bodyPost_ret (v:=.agg #[D op,D 0,D 0,D 0,D 0,D 0,.string ⟨#[]⟩,D 0,D 0,.slice (some ⟨w.heap.size + 1 + 1 + 1,0,none⟩) 2 2]) (by simp [results,Tryz.results67,go_sem]) rfl ⟨_,?_,rfl,?_⟩
 ·have hB4:Dx lo w ((((w.alloc (.cells #[D x0,D x1,D x2,D x3,D x4,D x5,.string ⟨x6.toArray⟩,D x7,D x8,.slice A xk.length c] 32)).alloc (.cells #[D y0,D y1,D y2,D y3,D y4,D y5,.string ⟨y6.toArray⟩,D y7,D y8,.slice B yk.length d] 32)).alloc (.cells #[D op,D 0,D 0,D 0,D 0,D 0,.string ⟨#[]⟩,D 0,D 0,.slice (some ⟨w.heap.size + 1 + 1 + 1,0,none⟩) 2 2] 32)).alloc (.cells #[D x0,D x1,D x2,D x3,D x4,D x5,.string ⟨x6.toArray⟩,D x7,D x8,.slice A xk.length c,D y0,D y1,D y2,D y3,D y4,D y5,.string ⟨y6.toArray⟩,D y7,D y8,.slice B yk.length d] 32)):=
   .of_below (((((Below.refl _ _).alloc (Nat.le_refl _) _).alloc (by simp) _).alloc (by simp; omega) _).alloc (by simp; omega) _)
  refine BX.mk (c:=2) (T:=32) (fr:=(0,0)) op 0 0 0 0 0 [] 0 0 (Bm.cons (BX.keep hB4 _ _ HX.out) (Bm.one (BX.keep hB4 _ _ HY.out))) ?_ (fun r hr=>?_) (by omega)
  ·exact KN (by simp)
  ·simp only [List.mem_cons,List.not_mem_nil,or_false] at hr
   rcases hr with rfl | rfl <;> rfl
 ·exact ((((Below.refl _ _).alloc (Nat.le_refl _) _).alloc (by simp) _).alloc (by simp; omega) _).alloc (by simp; omega) _
end Go.Proofs.YtmcpjkcggfmcmaaGreatDoor

/-
  Part 8 of a proof: contracts of functions.
-/
import Derived.Test.YtmcpjkcggfmcmaaGreatDoorL04
import Derived.Lib.Builder
set_option linter.all false
namespace Go.Proofs.YtmcpjkcggfmcmaaGreatDoor
open Go.RowKit
set_option maxHeartbeats 1000000 in
theorem SD (v n:Int) (w:World) (h0:-9223372036854775808≤v) (h1:v≤9223372036854775807) (hn:1≤n) (hn2:n≤2000000000000) :
  Calls Tryz.prog 6 #[.int .i64 v,.int .i64 n] w fun e w'=>e=.returned (.int .i64 (v % n))∧w=w':=by
 have hm0:=Int.emod_nonneg v (show n≠0 by omega)
 have hm1:=Int.emod_lt_of_pos v (show 0 < n by omega)
 have gn:(n == 0)=false:=by simp; omega
 by_cases hv:0≤v
 ·go_enter Tryz.func6,Tryz.ntmps6
  go_wp2_with fail
  go_ret
  exact ⟨rfl,rfl⟩
 ·by_cases hd:n∣v
  ·have ht:v.tmod n=0:=Int.tmod_eq_zero_of_dvd hd
   have HR:Hid (v % n=0):=Int.emod_eq_zero_of_dvd hd
   clear hd
   go_enter Tryz.func6,Tryz.ntmps6
   go_wp2_with fail
   go_ret
   exact ⟨Fl HR.out.symm,rfl⟩
  ·obtain ⟨r,hr⟩:∃ r,v % n=r:=⟨_,rfl⟩
   have ht:v.tmod n=r - n:=by
    rw [Int.tmod_eq_emod,if_neg (by omega),hr]
    omega
   rw [hr] at hm0 hm1
   have HR:=Lib.hid hr
   clear hd hr
   go_enter Tryz.func6,Tryz.ntmps6
   go_wp2_with fail
   go_ret
   exact ⟨Fl (by rw [HR.out]),rfl⟩
end Go.Proofs.YtmcpjkcggfmcmaaGreatDoor
namespace Go.Proofs.YtmcpjkcggfmcmaaGreatDoor
open Go.RowKit
structure Ca (b:Nat) (w w':World):Prop where
 os:w'.os=w.os
 tape:w'.tape=w.tape
 output:w'.output=w.output
 size:w.heap.size≤w'.heap.size
 block:∀ k,k < w.heap.size→k≠b→w'.heap[k]?=w.heap[k]?
theorem Ca.refl (b:Nat) (w:World):Ca b w w:=⟨rfl,rfl,rfl,Nat.le_refl _,fun _ _ _=>rfl⟩
theorem Ca.trans {b:Nat} {u v w:World} (h:Ca b u v) (k:Ca b v w):Ca b u w:=
 ⟨k.os.trans h.os,k.tape.trans h.tape,k.output.trans h.output,Nat.le_trans h.size k.size,fun i hi hb=>(k.block i (Nat.lt_of_lt_of_le hi h.size) hb).trans (h.block i hi hb)⟩
theorem Ca.of_below {b:Nat} {w w':World} (h:Below w.heap.size w w'):Ca b w w':=⟨h.os,h.tape,h.output,h.size,fun k hk _=>h.block k hk⟩
theorem Ca.alloc {b:Nat} {u w:World} (h:Ca b u w) (o:Obj):Ca b u (w.alloc o):=
 h.trans (.of_below ((Below.refl _ _).alloc (Nat.le_refl _) _))
theorem Ca.drew {b:Nat} {u w:World} (h:Ca b u w):Ca b u w.drew:=h.trans (.of_below (Below.refl _ _).drew)
theorem Ca.drewN {b:Nat} {u w:World} (h:Ca b u w) (n:Nat):Ca b u (w.drewN n):=⟨h.os,h.tape,h.output,h.size,h.block⟩
theorem Ca.setCell {b:Nat} {u w:World} (h:Ca b u w) {p:Addr} (hp:p.block=b) (x:Value):Ca b u (w.setCell p x):=
 h.trans ⟨rfl,rfl,rfl,by simp [World.setCell],fun k _ hk=>Below.heap_setCell _ _ _ _ (by rw [hp]; exact hk)⟩
theorem Ca.below {b B:Nat} {w w':World} (h:Ca b w w') (hB:B≤b) (hs:B≤w.heap.size):Below B w w':=
 ⟨h.os,h.tape,h.output,h.size,fun k hk=>h.block k (by omega) (by omega)⟩
theorem Ca.cell {b:Nat} {w w':World} (h:Ca b w w') {p:Addr} (hp:p.block < w.heap.size) (hb:p.block≠b):w'.cell? p=w.cell? p:=
 World.cell?_of_block (w:=w) (h.block p.block hp hb)
def NF (w:World) (b:Nat) (v:Value) (ns:List Int):Prop:=
 ∃ A c,v=.slice A ns.length c∧ns.length≤maxLen∧(∀ x∈ns,-9223372036854775808≤x∧x≤9223372036854775807)∧
  (0 < ns.length→∃ g off,A=some ⟨g,off,none⟩∧g < b∧∀ i (h:i < ns.length),w.cell? ⟨g,off + i,none⟩=some (.int .i64 ns[i]))
def CI (b:Nat) (ns:List Int) (w:World):Prop:=
 ∃ (v:Value) (k:Nat),k≤ns.length∧w.heap[b]?=some (.cells #[v,.int .i64 k] 86 (0,0))∧NF w b v ns
theorem Cy {w:World} {b:Nat} {o:Obj} (h:w.heap[b]?=some o):b < w.heap.size:=by
 rcases Nat.lt_or_ge b w.heap.size with h' | h'
 ·exact h'
 ·rw [Array.getElem?_eq_none h'] at h; cases h
theorem CI.lt {b:Nat} {ns:List Int} {w:World} (h:CI b ns w):b < w.heap.size:=by
 obtain ⟨v,k,_,hb,_⟩:=h
 exact Cy hb
theorem NF.keep {w w':World} {b:Nat} {v:Value} {ns:List Int} (h:NF w b v ns) (hk:∀ g,g < b→w'.heap[g]?=w.heap[g]?):NF w' b v ns:=by
 obtain ⟨A,c,rfl,h1,h2,h3⟩:=h
 refine ⟨A,c,rfl,h1,h2,fun hn=>?_⟩
 obtain ⟨g,off,rfl,hg,hc⟩:=h3 hn
 exact ⟨g,off,rfl,hg,fun i hi=>by rw [World.cell?_of_block (w:=w) (hk g hg)]; exact hc i hi⟩
theorem CI.below {b:Nat} {ns:List Int} {w w':World} (h:CI b ns w) (hb:Below w.heap.size w w'):CI b ns w':=by
 have hlt:=h.lt
 obtain ⟨v,k,hk,hc,hi⟩:=h
 exact ⟨v,k,hk,(hb.block b hlt).trans hc,hi.keep (fun g hg=>hb.block g (by omega))⟩
def bI (b:Nat) (ns:List Int) (n:Int) (w:World) (e:Ending) (w':World):Prop:=
 ∃ k:Nat,(k=0∨(k:Int) < n)∧e=.returned (.int .i64 k)∧CI b ns w'∧Ca b w w'
end Go.Proofs.YtmcpjkcggfmcmaaGreatDoor
namespace Go.Proofs.YtmcpjkcggfmcmaaGreatDoor
open Go.RowKit
theorem CI.drewN {b:Nat} {ns:List Int} {w:World} (h:CI b ns w) (n:Nat):CI b ns (w.drewN n):=h.below (Yg (Below.refl _ _) n)
theorem VK {w:World} {b i:Nat} {cs:Array Value} {t:TypeId} {fr:Nat×Nat} (h:w.heap[b]?=some (.cells cs t fr)) (x:Value):(w.setCell ⟨b,i,none⟩ x).heap[b]?=some (.cells (cs.setIfInBounds i x) t fr):=by
 simp [World.setCell,Array.getElem?_modify,h]
set_option maxHeartbeats 1000000 in
set_option maxRecDepth 100000 in
theorem EA (b:Nat) (ns:List Int) (n:Int) (w:World) (h:CI b ns w) (hn0:-9223372036854775808≤n) (hn:n≤2000000000000) :
  Calls Tryz.prog 35 #[.pointer (some ⟨b,0,none⟩),.int .i64 n] w (bI b ns n w):=by
 have HT:=Lib.hid h
 have hlt:=h.lt
 obtain ⟨v,k,hk,hb,hi⟩:=h
 obtain ⟨A,c,rfl,hm,hx,hc⟩:=hi
 have HB:=Lib.hid hb
 have c0:=Lib.cell_of_heap hb 0
 have c1:=Lib.cell_of_heap hb 1
 simp only [List.getElem?_toArray,List.getElem?_cons_zero,List.getElem?_cons_succ] at c0 c1
 have f1:=Lib.frozen_of_heap hb 1
 unfold maxLen at hm
 clear hb
 by_cases h1:n < 1
 ·clear hc hx
  go_enter Tryz.func35,Tryz.ntmps35
  go_wp2_with fail
  go_quiet (fail)
  go_wp2_with fail
  go_ret
  exact ⟨0,.inl rfl,rfl,HT.out.drewN _,(Ca.refl _ _).drewN _⟩
 ·have hd1:decide (n < 1)=false:=decide_eq_false h1
  by_cases h2:ns.length≤k
  ·have hd2:decide (ns.length≤k)=true:=decide_eq_true h2
   clear hc hx
   go_enter Tryz.func35,Tryz.ntmps35
   go_wp2_with fail
   go_quiet (fail)
   go_wp2_with fail
   go_ret
   exact ⟨0,.inl rfl,rfl,HT.out.drewN _,(Ca.refl _ _).drewN _⟩
  ·have hd2:decide (ns.length≤k)=false:=decide_eq_false h2
   obtain ⟨g,off,rfl,hg,hcell⟩:=hc (by omega)
   have hck:=hcell k (by omega)
   obtain ⟨x,hx0⟩:∃ x,ns[k]=x:=⟨_,rfl⟩
   have hxb:=hx ns[k] (List.getElem_mem _)
   rw [hx0] at hck hxb
   obtain ⟨hxl,hxu⟩:=hxb
   clear hx hx0 hc hcell
   go_enter Tryz.func35,Tryz.ntmps35
   go_wp2_with fail
   go_quiet (fail)
   go_wp2_with fail
   have hb1:((w.drewN nq).setCell ⟨b,1,none⟩ (.int .i64 ((k:Int) + 1))).heap[b]?=some (.cells #[.slice (some ⟨g,off,none⟩) ns.length c,.int .i64 ((k:Int) + 1)] 86 (0,0)):=VK (w:=w.drewN nq) (i:=1) HB.out _
   have hck1:((w.drewN nq).setCell ⟨b,1,none⟩ (.int .i64 ((k:Int) + 1))).cell? ⟨g,off + k,none⟩=some (.int .i64 x):=by
    rw [World.cell?_of_block (w:=w) (Below.heap_setCell (w.drewN nq) _ _ _ (by simp; omega))]
    exact hck
   have hB1:Ca b w ((w.drewN nq).setCell ⟨b,1,none⟩ (.int .i64 ((k:Int) + 1))):=((Ca.refl b w).drewN nq).setCell rfl _
   clear c0 c1 f1 hck hd1 hd2
   generalize (w.drewN nq).setCell ⟨b,1,none⟩ (.int .i64 ((k:Int) + 1))=w1 at *
   have HT1:Hid (CI b ns w1):=by
    obtain ⟨v,k',hk',hb',hi⟩:=HT.out
    refine ⟨_,k + 1,by omega,hb1,?_⟩
    have hv:v=.slice (some ⟨g,off,none⟩) ns.length c:=by
     have:=HB.out
     rw [hb'] at this
     simp at this
     exact this.1
    rw [← hv]
    exact hi.keep (fun g hg=>hB1.block g (by omega) (by omega))
   have c0:=Lib.cell_of_heap hb1 0
   have c1:=Lib.cell_of_heap hb1 1
   simp only [List.getElem?_toArray,List.getElem?_cons_zero,List.getElem?_cons_succ] at c0 c1
   clear hb1 HB HT
   have hkn:(k:Int) < ns.length:=by omega
   go_quiet ((go_at_call 6; exact MW (SD _ _ _ (by omega) (by omega) (by omega) (by omega))))
   go_wp2_with fail
   go_ret
   have hm0:=Int.emod_nonneg x (show n≠0 by omega)
   have hm1:=Int.emod_lt_of_pos x (show 0 < n by omega)
   obtain ⟨r,hr⟩:=Int.eq_ofNat_of_zero_le hm0
   exact ⟨r,.inr (by omega),Fl hr,HT1.out.drewN _,hB1.drewN _⟩
end Go.Proofs.YtmcpjkcggfmcmaaGreatDoor
namespace Go.Proofs.YtmcpjkcggfmcmaaGreatDoor
open Go.RowKit
theorem Ca.setNew {b:Nat} {u w:World} (h:Ca b u w) {p:Addr} (hp:u.heap.size≤p.block) (x:Value):Ca b u (w.setCell p x):=
 ⟨h.os,h.tape,h.output,Nat.le_trans h.size (by simp [World.setCell]),fun k hk hb=>(Below.heap_setCell _ _ _ _ (by omega)).trans (h.block k hk hb)⟩
theorem CI.setCell {b:Nat} {ns:List Int} {w:World} (h:CI b ns w) {p:Addr} (hp:b < p.block) (x:Value):CI b ns (w.setCell p x):=by
 obtain ⟨v,k,hk,hc,hi⟩:=h
 exact ⟨v,k,hk,(Below.heap_setCell _ _ _ _ (by omega)).trans hc,hi.keep (fun g hg=>Below.heap_setCell _ _ _ _ (by omega))⟩
theorem CI.alloc {b:Nat} {ns:List Int} {w:World} (h:CI b ns w) (o:Obj):CI b ns (w.alloc o):=h.below ((Below.refl _ _).alloc (Nat.le_refl _) _)
inductive Ex where
 | mk (op num den mu hu du:Int) (name:List UInt8) (count mode:Int) (kids:List Ex):Ex
def F0 (lo:Nat) (w:World) (n:Nat) (A:Option Addr) (rs:List (List Value)):Prop:=
 rs=[]∨∃ g off,A=some ⟨g,off,none⟩∧lo≤g∧∀ (i:Nat) r,rs[i]?=some r→∀ (j:Nat) u,r[j]?=some u→w.cell? ⟨g,off + i * n + j,none⟩=some u
mutual
def Cl (lo:Nat) (w:World):Ex→List Value→Prop
 | .mk op num den mu hu du name count mode kids,cs=>∃ A c ks,cs=[.int .i64 op,.int .i64 num,.int .i64 den,.int .i64 mu,.int .i64 hu,.int .i64 du,.string ⟨name.toArray⟩,.int .i64 count,.int .i64 mode,.slice A kids.length c]∧
   Bd lo w kids ks∧F0 lo w 10 A ks
def Bd (lo:Nat) (w:World):List Ex→List (List Value)→Prop
 | [],ks=>ks=[]
 | e :: es,ks=>∃ c cs,ks=c :: cs∧Cl lo w e c∧Bd lo w es cs
end
theorem ap (rs:List (List Value)) (n:Nat) (h:∀ r∈rs,r.length=n) (i j:Nat) (r:List Value) (hi:rs[i]?=some r) (hj:j < n):rs.flatten[i * n + j]?=r[j]?:=by
 induction rs generalizing i with
 | nil=>simp at hi
 | cons a rs ih=>
  have ha:=h a (by simp)
  cases i with
  | zero=>
   simp at hi
   subst hi
   rw [List.flatten_cons,List.getElem?_append_left (by omega)]
   simp
  | succ i=>
   simp at hi
   rw [List.flatten_cons,List.getElem?_append_right (by rw [ha,Nat.succ_mul]; omega),ha,show (i + 1) * n + j - n=i * n + j by rw [Nat.succ_mul]; omega]
   exact ih (fun r hr=>h r (by simp [hr])) i hi
theorem VL {lo n g:Nat} {w:World} {T:TypeId} {fr:Nat×Nat} {rs:List (List Value)} (h:w.heap[g]?=some (.cells rs.flatten.toArray T fr)) (hl:∀ r∈rs,r.length=n) (hg:lo≤g):F0 lo w n (some ⟨g,0,none⟩) rs:=by
 refine .inr ⟨g,0,rfl,hg,fun i r hi j u hj=>?_⟩
 have hr:=hl r (List.mem_of_getElem? hi)
 have hjn:j < n:=by
  rcases Nat.lt_or_ge j r.length with h' | h'
  ·omega
  ·rw [List.getElem?_eq_none h'] at hj; cases hj
 rw [Lib.cell_of_heap h,List.getElem?_toArray,Nat.zero_add,ap rs n hl i j r hi hjn]
 exact hj
def ED (lo:Nat) (w w':World):Prop:=∀ g,lo≤g→g < w.heap.size→w'.heap[g]?=w.heap[g]?
theorem ED.of_but {b lo:Nat} {w w':World} (h:Ca b w w') (hb:b < lo):ED lo w w':=fun g hg hs=>h.block g hs (by omega)
theorem ED.of_below {lo:Nat} {w w':World} (h:Below w.heap.size w w'):ED lo w w':=fun g _ hs=>h.block g hs
theorem ED.setCell {lo:Nat} {w w':World} (h:ED lo w w') {p:Addr} (hp:p.block < lo) (x:Value):ED lo w (w'.setCell p x):=fun g hg hs=>(Below.heap_setCell _ _ _ _ (by omega)).trans (h g hg hs)
theorem F0.keep {lo n:Nat} {w w':World} {A:Option Addr} {rs:List (List Value)} (h:F0 lo w n A rs) (hb:ED lo w w'):F0 lo w' n A rs:=by
 rcases h with h | ⟨g,off,rfl,hg,hc⟩
 ·exact .inl h
 ·refine .inr ⟨g,off,rfl,hg,fun i r hi j u hj=>?_⟩
  have:=hc i r hi j u hj
  rw [World.cell?_of_block (w:=w) (hb g hg (World.block_lt_of_cell? w _ this))]
  exact this
theorem F0.mono {lo lo' n:Nat} {w:World} {A:Option Addr} {rs:List (List Value)} (h:F0 lo w n A rs) (hl:lo'≤lo):F0 lo' w n A rs:=by
 rcases h with h | ⟨g,off,rfl,hg,hc⟩
 ·exact .inl h
 ·exact .inr ⟨g,off,rfl,by omega,hc⟩
mutual
theorem Cl.keep {lo:Nat} {w w':World} (hb:ED lo w w'):∀ (e:Ex) (cs:List Value),Cl lo w e cs→Cl lo w' e cs
 | .mk op num den mu hu du name count mode kids,cs,h=>by
  unfold Cl at h ⊢
  obtain ⟨A,c,ks,h1,h2,h3⟩:=h
  exact ⟨A,c,ks,h1,Bd.keep hb kids ks h2,h3.keep hb⟩
theorem Bd.keep {lo:Nat} {w w':World} (hb:ED lo w w'):∀ (es:List Ex) (ks:List (List Value)),Bd lo w es ks→Bd lo w' es ks
 | [],ks,h=>by unfold Bd at h ⊢; exact h
 | e :: es,ks,h=>by
  unfold Bd at h ⊢
  obtain ⟨c,cs,h1,h2,h3⟩:=h
  exact ⟨c,cs,h1,Cl.keep hb e c h2,Bd.keep hb es cs h3⟩
end
mutual
theorem Cl.mono {lo lo':Nat} {w:World} (hl:lo'≤lo):∀ (e:Ex) (cs:List Value),Cl lo w e cs→Cl lo' w e cs
 | .mk op num den mu hu du name count mode kids,cs,h=>by
  unfold Cl at h ⊢
  obtain ⟨A,c,ks,h1,h2,h3⟩:=h
  exact ⟨A,c,ks,h1,Bd.mono hl kids ks h2,h3.mono hl⟩
theorem Bd.mono {lo lo':Nat} {w:World} (hl:lo'≤lo):∀ (es:List Ex) (ks:List (List Value)),Bd lo w es ks→Bd lo' w es ks
 | [],ks,h=>by unfold Bd at h ⊢; exact h
 | e :: es,ks,h=>by
  unfold Bd at h ⊢
  obtain ⟨c,cs,h1,h2,h3⟩:=h
  exact ⟨c,cs,h1,Cl.mono hl e c h2,Bd.mono hl es cs h3⟩
end
theorem Bd.length {lo:Nat} {w:World}:∀ (es:List Ex) (ks:List (List Value)),Bd lo w es ks→ks.length=es.length
 | [],ks,h=>by unfold Bd at h; rw [h]; rfl
 | e :: es,ks,h=>by
  unfold Bd at h
  obtain ⟨c,cs,h1,_,h3⟩:=h
  rw [h1,List.length_cons,List.length_cons,Bd.length es cs h3]
theorem Cl.len {lo:Nat} {w:World} {e:Ex} {cs:List Value} (h:Cl lo w e cs):cs.length=10:=by
 obtain ⟨op,num,den,mu,hu,du,name,count,mode,kids⟩:=e
 unfold Cl at h
 obtain ⟨A,c,ks,rfl,_⟩:=h
 rfl
theorem Cl.mk {lo g c:Nat} {w:World} {T:TypeId} {fr:Nat×Nat} {kids:List Ex} {ks:List (List Value)} (op num den mu hu du:Int) (name:List UInt8) (count mode:Int) (hk:Bd lo w kids ks)
  (h:w.heap[g]?=some (.cells ks.flatten.toArray T fr)) (hl:∀ r∈ks,r.length=10) (hg:lo≤g) :
  Cl lo w (.mk op num den mu hu du name count mode kids) [.int .i64 op,.int .i64 num,.int .i64 den,.int .i64 mu,.int .i64 hu,.int .i64 du,.string ⟨name.toArray⟩,.int .i64 count,.int .i64 mode,.slice (some ⟨g,0,none⟩) kids.length c]:=by
 unfold Cl
 exact ⟨some ⟨g,0,none⟩,c,ks,rfl,hk,VL h hl hg⟩
theorem Cl.leaf {lo:Nat} {w:World} (op num den mu hu du:Int) (name:List UInt8) (count mode:Int) :
  Cl lo w (.mk op num den mu hu du name count mode []) [.int .i64 op,.int .i64 num,.int .i64 den,.int .i64 mu,.int .i64 hu,.int .i64 du,.string ⟨name.toArray⟩,.int .i64 count,.int .i64 mode,.slice none 0 0]:=by
 unfold Cl
 exact ⟨none,0,[],rfl,by unfold Bd; rfl,.inl rfl⟩
theorem Bd.one {lo:Nat} {w:World} {e:Ex} {c:List Value} (h:Cl lo w e c):Bd lo w [e] [c]:=by
 unfold Bd Bd; exact ⟨c,[],rfl,h,rfl⟩
theorem Bd.cons {lo:Nat} {w:World} {e:Ex} {es:List Ex} {c:List Value} {cs:List (List Value)} (h:Cl lo w e c) (hs:Bd lo w es cs):Bd lo w (e :: es) (c :: cs):=by
 unfold Bd; exact ⟨c,cs,rfl,h,hs⟩
mutual
def Ex.height:Ex→Nat
 | .mk _ _ _ _ _ _ _ _ _ kids=>Ex.heights kids + 1
def Ex.heights:List Ex→Nat
 | []=>0
 | e :: es=>max (Ex.height e) (Ex.heights es)
end
end Go.Proofs.YtmcpjkcggfmcmaaGreatDoor
namespace Go.Proofs.YtmcpjkcggfmcmaaGreatDoor
open Go.RowKit
def EQ (t:Bool×Int×Int×Int):Value:=.agg #[.bool t.1,.int .i64 t.2.1,.int .i64 t.2.2.1,.int .i64 t.2.2.2]
def Hj:Bool×Int×Int×Int:=(false,0,0,0)
def Fz:Bool×Int×Int×Int:=(false,1,0,0)
def GO:Bool×Int×Int×Int:=(false,0,1,0)
def IK:Bool×Int×Int×Int:=(false,1,-1,0)
def FX:Bool×Int×Int×Int:=(true,0,0,0)
theorem m1 (w:World):Calls Tryz.prog 34 #[] w fun e w'=>e=.returned (EQ Hj)∧Below w.heap.size w w':=by
 go_enter Tryz.func34,Tryz.ntmps34
 go_wp2_with fail
 exact bodyPost_ret (v:=EQ Hj) (by simp [results,Tryz.results34,go_sem,EQ,Hj]) rfl ⟨rfl,(Below.refl _ _).alloc (Nat.le_refl _) _⟩
theorem JO (w:World):Calls Tryz.prog 31 #[] w fun e w'=>e=.returned (EQ Fz)∧Below w.heap.size w w':=by
 go_enter Tryz.func31,Tryz.ntmps31
 go_wp2_with fail
 exact bodyPost_ret (v:=EQ Fz) (by simp [results,Tryz.results31,go_sem,EQ,Fz]) rfl ⟨rfl,(Below.refl _ _).alloc (Nat.le_refl _) _⟩
theorem Ld (w:World):Calls Tryz.prog 29 #[] w fun e w'=>e=.returned (EQ GO)∧Below w.heap.size w w':=by
 go_enter Tryz.func29,Tryz.ntmps29
 go_wp2_with fail
 exact bodyPost_ret (v:=EQ GO) (by simp [results,Tryz.results29,go_sem,EQ,GO]) rfl ⟨rfl,(Below.refl _ _).alloc (Nat.le_refl _) _⟩
theorem R7 (w:World):Calls Tryz.prog 33 #[] w fun e w'=>e=.returned (EQ IK)∧Below w.heap.size w w':=by
 go_enter Tryz.func33,Tryz.ntmps33
 go_wp2_with fail
 exact bodyPost_ret (v:=EQ IK) (by simp [results,Tryz.results33,go_sem,EQ,IK]) rfl ⟨rfl,(Below.refl _ _).alloc (Nat.le_refl _) _⟩
theorem Ht (w:World):Calls Tryz.prog 30 #[] w fun e w'=>e=.returned (EQ FX)∧Below w.heap.size w w':=by
 go_enter Tryz.func30,Tryz.ntmps30
 go_wp2_with fail
 exact bodyPost_ret (v:=EQ FX) (by simp [results,Tryz.results30,go_sem,EQ,FX]) rfl ⟨rfl,(Below.refl _ _).alloc (Nat.le_refl _) _⟩
def bH (b:Nat) (ns:List Int) (xs:List Int) (w:World) (e:Ending) (w':World):Prop:=
 ∃ x,x∈xs∧e=.returned (.int .i64 x)∧CI b ns w'∧Ca b w w'
set_option maxHeartbeats 400000 in
theorem QY (b g c:Nat) (ns xs:List Int) (w:World) (h:CI b ns w) (hg:g≠b) (hx:0 < xs.length) (hxm:xs.length≤1000) (hc:∀ (i:Nat) (x:Int),xs[i]?=some x→w.cell? ⟨g,i,none⟩=some (.int .i64 x)) :
  Calls Tryz.prog 38 #[.pointer (some ⟨b,0,none⟩),.slice (some ⟨g,0,none⟩) xs.length c] w (bH b ns xs w):=by
 have HT:=Lib.hid h
 have HC:=Lib.hid hc
 clear h hc
 go_enter Tryz.func38,Tryz.ntmps38
 go_wp2_with fail
 refine (EA b ns xs.length w HT.out (by omega) (by omega)).mono ?_
 rintro e w1 ⟨k,hk,rfl,hT1,hb1⟩
 have hkl:k < xs.length:=by omega
 obtain ⟨x,hxk⟩:∃ x,xs[k]?=some x:=⟨_,List.getElem?_eq_getElem hkl⟩
 have hc0:=HC.out k x hxk
 have hc1:w1.cell? ⟨g,k,none⟩=some (.int .i64 x):=by rw [hb1.cell (World.block_lt_of_cell? w _ hc0) hg]; exact hc0
 have HX:=Lib.hid (List.mem_of_getElem? hxk)
 have HT1:=Lib.hid hT1
 clear hc0 hxk hT1 hk
 go_wp2_with fail
 go_ret
 exact ⟨x,HX.out,rfl,HT1.out,hb1⟩
def Cp:List (Int×Int):=[(1,1),(2,1),(0,1),(5,2),(1,4),(76,5),(40,1),(1,100),(3,1),(100,1)]
def fL (b:Nat) (ns:List Int) (w:World) (e:Ending) (w':World):Prop:=
 ∃ x,x∈Cp∧e=.returned (.agg #[.int .i64 x.1,.int .i64 x.2])∧CI b ns w'∧Ca b w w'
def GE (x:Int×Int):List Value:=[.int .i64 x.1,.int .i64 x.2]
theorem Xe (w:World) (k:Nat) (hk:k < 10):∃ x,x∈Cp∧(w.alloc (.cells (Cp.flatMap GE).toArray 29)).cell? ⟨w.heap.size,k * 2,none⟩=some (.int .i64 x.1)∧(w.alloc (.cells (Cp.flatMap GE).toArray 29)).cell? ⟨w.heap.size,k * 2 + 1,none⟩=some (.int .i64 x.2):=by
 rw [Lib.cell_of_heap (heap_alloc_new w _),Lib.cell_of_heap (heap_alloc_new w _),List.getElem?_toArray,List.getElem?_toArray]
 have:k=0∨k=1∨k=2∨k=3∨k=4∨k=5∨k=6∨k=7∨k=8∨k=9:=by omega
 rcases this with rfl | rfl | rfl | rfl | rfl | rfl | rfl | rfl | rfl | rfl
 ·exact ⟨(1,1),by simp [Cp],rfl,rfl⟩
 ·exact ⟨(2,1),by simp [Cp],rfl,rfl⟩
 ·exact ⟨(0,1),by simp [Cp],rfl,rfl⟩
 ·exact ⟨(5,2),by simp [Cp],rfl,rfl⟩
 ·exact ⟨(1,4),by simp [Cp],rfl,rfl⟩
 ·exact ⟨(76,5),by simp [Cp],rfl,rfl⟩
 ·exact ⟨(40,1),by simp [Cp],rfl,rfl⟩
 ·exact ⟨(1,100),by simp [Cp],rfl,rfl⟩
 ·exact ⟨(3,1),by simp [Cp],rfl,rfl⟩
 ·exact ⟨(100,1),by simp [Cp],rfl,rfl⟩
set_option maxHeartbeats 1000000 in
theorem Rs (b:Nat) (ns:List Int) (w:World) (h:CI b ns w) :
  Calls Tryz.prog 40 #[.pointer (some ⟨b,0,none⟩)] w (fL b ns w):=by
 have HT:=Lib.hid h
 have hlt:=h.lt
 clear h
 go_enter Tryz.func40,Tryz.ntmps40
 go_wp2_with fail
 change Calls _ _ _ ((w.alloc (.cells #[.int .i64 0,.int .i64 0] 29)).alloc (.cells (Cp.flatMap GE).toArray 29)) _
 have HC:=Lib.hid (Xe (w.alloc (.cells #[.int .i64 0,.int .i64 0] 29)))
 rw [World.size_alloc] at HC
 have hr:((w.alloc (.cells #[.int .i64 0,.int .i64 0] 29)).alloc (.cells (Cp.flatMap GE).toArray 29)).heap[w.heap.size]?=some (.cells #[.int .i64 0,.int .i64 0] 29 (0,0)):=(Below.heap_alloc _ _ _ (by simp)).trans (heap_alloc_new w _)
 have hB0:Ca b w ((w.alloc (.cells #[.int .i64 0,.int .i64 0] 29)).alloc (.cells (Cp.flatMap GE).toArray 29)):=((Ca.refl _ _).alloc _).alloc _
 have HT0:Hid (CI b ns ((w.alloc (.cells #[.int .i64 0,.int .i64 0] 29)).alloc (.cells (Cp.flatMap GE).toArray 29))):=HT.out.below (((Below.refl _ _).alloc (Nat.le_refl _) _).alloc (by simp) _)
 generalize (w.alloc (.cells #[.int .i64 0,.int .i64 0] 29)).alloc (.cells (Cp.flatMap GE).toArray 29)=w1 at *
 refine (EA b ns 10 w1 HT0.out (by omega) (by omega)).mono ?_
 rintro e w2 ⟨k,hk,rfl,hT2,hb2⟩
 obtain ⟨⟨x1,x2⟩,hx,d0,d1⟩:=HC.out k (by omega)
 have c0:w2.cell? ⟨w.heap.size + 1,k * 2,none⟩=some (.int .i64 x1):=by rw [hb2.cell (World.block_lt_of_cell? w1 _ d0) (by simp; omega)]; exact d0
 have c1:w2.cell? ⟨w.heap.size + 1,k * 2 + 1,none⟩=some (.int .i64 x2):=by rw [hb2.cell (World.block_lt_of_cell? w1 _ d1) (by simp; omega)]; exact d1
 have hr2:=(hb2.block _ (Cy hr) (by omega)).trans hr
 have r0:=Lib.cell_of_heap hr2 0
 have r1:=Lib.cell_of_heap hr2 1
 simp only [List.getElem?_toArray,List.getElem?_cons_zero,List.getElem?_cons_succ] at r0 r1
 have f0:=Lib.frozen_of_heap hr2 0
 have f1:=Lib.frozen_of_heap hr2 1
 have hbw:Ca b w w2:=hB0.trans hb2
 have hkk:k < 10:=by omega
 have HX:=Lib.hid hx
 have HT2:=Lib.hid hT2
 have hsz2:=Cy hr2
 clear hx hT2 d0 d1 HC HT0 HT hr hB0 hr2 hk
 go_wp2_with fail
 refine bodyPost_ret (v:=.agg #[.int .i64 x1,.int .i64 x2]) (by simp [results,Tryz.results40,go_sem,r0,r1]) rfl ⟨(x1,x2),HX.out,rfl,?_,?_⟩
 ·exact (HT2.out.setCell (by simpa using hlt) _).setCell (by simpa using hlt) _
 ·exact (hbw.setNew (by simp) _).setNew (by simp) _
theorem RT {w:World} {o:Obj} {g:Nat} (h:g=w.heap.size):(w.alloc o).heap[g]?=some o:=by subst h; exact heap_alloc_new w o
def kL (b:Nat) (ns:List Int) (P:Ex→Prop) (w:World) (e:Ending) (w':World):Prop:=
 ∃ x cs,P x∧Cl w.heap.size w' x cs∧e=.returned (.agg cs.toArray)∧CI b ns w'∧Ca b w w'
set_option maxHeartbeats 1000000 in
theorem pH (lo:Nat) (op:Int) (x y:Ex) (cx cy:List Value) (w:World) (hlo:lo≤w.heap.size) (hx:Cl lo w x cx) (hy:Cl lo w y cy) :
  Calls Tryz.prog 67 #[.int .i64 op,.agg cx.toArray,.agg cy.toArray] w fun e w'=>
   ∃ cs,Cl lo w' (.mk op 0 0 0 0 0 [] 0 0 [x,y]) cs∧e=.returned (.agg cs.toArray)∧Below w.heap.size w w':=by
 have HX:=Lib.hid hx
 have HY:=Lib.hid hy
 obtain ⟨x0,x1,x2,x3,x4,x5,x6,x7,x8,xk⟩:=x
 obtain ⟨y0,y1,y2,y3,y4,y5,y6,y7,y8,yk⟩:=y
 unfold Cl at hx hy
 obtain ⟨A,c,ks,rfl,_,_⟩:=hx
 obtain ⟨B,d,js,rfl,_,_⟩:=hy
 go_enter Tryz.func67,Tryz.ntmps67
 go_wp2_with fail
 refine bodyPost_ret (v:=.agg #[.int .i64 op,.int .i64 0,.int .i64 0,.int .i64 0,.int .i64 0,.int .i64 0,.string ⟨#[]⟩,.int .i64 0,.int .i64 0,.slice (some ⟨w.heap.size + 1 + 1 + 1,0,none⟩) 2 2]) (by simp [results,Tryz.results67,go_sem]) rfl ⟨_,?_,rfl,?_⟩
 ·have hB4:ED lo w ((((w.alloc (.cells #[.int .i64 x0,.int .i64 x1,.int .i64 x2,.int .i64 x3,.int .i64 x4,.int .i64 x5,.string ⟨x6.toArray⟩,.int .i64 x7,.int .i64 x8,.slice A xk.length c] 32)).alloc (.cells #[.int .i64 y0,.int .i64 y1,.int .i64 y2,.int .i64 y3,.int .i64 y4,.int .i64 y5,.string ⟨y6.toArray⟩,.int .i64 y7,.int .i64 y8,.slice B yk.length d] 32)).alloc (.cells #[.int .i64 op,.int .i64 0,.int .i64 0,.int .i64 0,.int .i64 0,.int .i64 0,.string ⟨#[]⟩,.int .i64 0,.int .i64 0,.slice (some ⟨w.heap.size + 1 + 1 + 1,0,none⟩) 2 2] 32)).alloc (.cells #[.int .i64 x0,.int .i64 x1,.int .i64 x2,.int .i64 x3,.int .i64 x4,.int .i64 x5,.string ⟨x6.toArray⟩,.int .i64 x7,.int .i64 x8,.slice A xk.length c,.int .i64 y0,.int .i64 y1,.int .i64 y2,.int .i64 y3,.int .i64 y4,.int .i64 y5,.string ⟨y6.toArray⟩,.int .i64 y7,.int .i64 y8,.slice B yk.length d] 32)):=
   .of_below (((((Below.refl _ _).alloc (Nat.le_refl _) _).alloc (by simp) _).alloc (by simp; omega) _).alloc (by simp; omega) _)
  refine Cl.mk (c:=2) (T:=32) (fr:=(0,0)) op 0 0 0 0 0 [] 0 0 (Bd.cons (Cl.keep hB4 _ _ HX.out) (Bd.one (Cl.keep hB4 _ _ HY.out))) ?_ (fun r hr=>?_) (by omega)
  ·exact RT (by simp)
  ·simp only [List.mem_cons,List.not_mem_nil,or_false] at hr
   rcases hr with rfl | rfl <;> rfl
 ·exact ((((Below.refl _ _).alloc (Nat.le_refl _) _).alloc (by simp) _).alloc (by simp; omega) _).alloc (by simp; omega) _
end Go.Proofs.YtmcpjkcggfmcmaaGreatDoor

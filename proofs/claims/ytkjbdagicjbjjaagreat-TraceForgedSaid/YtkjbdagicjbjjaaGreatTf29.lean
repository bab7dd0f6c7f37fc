/-
  Part 29 of a proof: contracts of functions.
-/
import Derived.Test.YtkjbdagicjbjjaaGreatTf00
import Derived.Test.YtkjbdagicjbjjaaGreatTf18
import Derived.Test.YtkjbdagicjbjjaaGreatTf10
import Derived.Test.YtkjbdagicjbjjaaGreatTf03
set_option linter.all false
namespace Go.Proofs.YtkjbdagicjbjjaaGreat
open Go.RowKit
theorem BW.drewN {b:Nat} {ns:List Int} {w:World} (h:BW b ns w) (n:Nat):BW b ns (w.drewN n):=h.below (Fi (Below.refl _ _) n)
theorem dP {w:World} {b i:Nat} {a:Array Value} {t:TypeId} {fr:Nat×Nat} (h:w.heap[b]?=some (.cells a t fr)) (x:Value):(w.setCell ⟨b,i,none⟩ x).heap[b]?=some (.cells (a.setIfInBounds i x) t fr):=by
 simp [World.setCell,Array.getElem?_modify,h]
set_option maxHeartbeats 1000000 in
set_option maxRecDepth 100000 in
theorem BM (b:Nat) (ns:List Int) (n:Int) (w:World) (h:BW b ns w) (hn0:-9223372036854775808≤n) (hn:n≤2000000000000) :
  Calls Tryz.prog 12 #[BY b,AI n] w (BQ b ns n w):=by
 have HT:=Lib.hid h
 have hlt:=h.lt
 obtain ⟨v,k,hk,hb,hi⟩:=h
 obtain ⟨A,c,rfl,hm,hx,hc⟩:=hi
 have HB:=Lib.hid hb
 have c0:=Lib.cell_of_heap hb 0
 have c1:=Lib.cell_of_heap hb 1
 simp only [List.getElem?_toArray,List.getElem?_cons_zero,List.getElem?_cons_succ] at c0 c1
 have f1:=Lib.frozen_of_heap hb 1
 unfold maxLen at hm
 clear hb
 by_cases h1:n < 1
 ·clear hc hx
  go_enter Tryz.func12,Tryz.ntmps12
  go_wp2_with fail
  go_quiet (fail)
  go_wp2_with fail
  go_ret
  exact ⟨0,.inl rfl,rfl,HT.out.drewN _,(CE.refl _ _).drewN _⟩
 ·have hd1:decide (n < 1)=false:=decide_eq_false h1
  by_cases h2:ns.length≤k
  ·have hd2:decide (ns.length≤k)=true:=decide_eq_true h2
   clear hc hx
   go_enter Tryz.func12,Tryz.ntmps12
   go_wp2_with fail
   go_quiet (fail)
   go_wp2_with fail
   go_ret
   exact ⟨0,.inl rfl,rfl,HT.out.drewN _,(CE.refl _ _).drewN _⟩
  ·have hd2:decide (ns.length≤k)=false:=decide_eq_false h2
   obtain ⟨g,off,rfl,hg,hcell⟩:=hc (by omega)
   have hck:=hcell k (by omega)
   obtain ⟨x,hx0⟩:∃ x,ns[k]=x:=⟨_,rfl⟩
   have hxb:=hx ns[k] (List.getElem_mem _)
   rw [hx0] at hck hxb
   obtain ⟨hxl,hxu⟩:=hxb
   clear hx hx0 hc hcell
   go_enter Tryz.func12,Tryz.ntmps12
   go_wp2_with fail
   go_quiet (fail)
   go_wp2_with fail
   have hb1:((w.drewN nq).setCell ⟨b,1,none⟩ (AI ((k:Int) + 1))).heap[b]?=some (.cells #[.slice (some ⟨g,off,none⟩) ns.length c,AI ((k:Int) + 1)] 62 (0,0)):=dP (w:=w.drewN nq) (i:=1) HB.out _
   have hck1:((w.drewN nq).setCell ⟨b,1,none⟩ (AI ((k:Int) + 1))).cell? ⟨g,off + k,none⟩=some (AI x):=by
    rw [World.cell?_of_block (w:=w) (Below.heap_setCell (w.drewN nq) _ _ _ (by simp; omega))]
    exact hck
   have hB1:CE b w ((w.drewN nq).setCell ⟨b,1,none⟩ (AI ((k:Int) + 1))):=((CE.refl b w).drewN nq).setCell rfl _
   clear c0 c1 f1 hck hd1 hd2
   generalize (w.drewN nq).setCell ⟨b,1,none⟩ (AI ((k:Int) + 1))=w1 at *
   have HT1:Hid (BW b ns w1):=by
    obtain ⟨v,k',hk',hb',hi⟩:=HT.out
    refine ⟨_,k + 1,by omega,hb1,?_⟩
    have hv:v=.slice (some ⟨g,off,none⟩) ns.length c:=by
     have:=HB.out
     rw [hb'] at this
     simp at this
     exact this.1
    rw [← hv]
    exact hi.keep (fun g hg=>hB1.block g (by omega) (by omega))
   have c0:=Lib.cell_of_heap hb1 0
   have c1:=Lib.cell_of_heap hb1 1
   simp only [List.getElem?_toArray,List.getElem?_cons_zero,List.getElem?_cons_succ] at c0 c1
   clear hb1 HB HT
   have hkn:(k:Int) < ns.length:=by omega
   go_quiet ((go_at_call 13; exact Pk (Ql _ _ _ (by omega) (by omega) (by omega) (by omega))))
   go_wp2_with fail
   go_ret
   have hm0:=Int.emod_nonneg x (show n≠0 by omega)
   have hm1:=Int.emod_lt_of_pos x (show 0 < n by omega)
   obtain ⟨r,hr⟩:=Int.eq_ofNat_of_zero_le hm0
   exact ⟨r,.inr (by omega),EQ hr,HT1.out.drewN _,hB1.drewN _⟩
theorem Wf (v:Value) (ns:List Int) (w:World) (h:G5 w w.heap.size v ns) :
  Calls Tryz.prog 5 #[v] w fun e w'=>e=.returned (BY (w.heap.size))∧BW w.heap.size ns w'∧w.heap.size < w'.heap.size∧Below w.heap.size w w':=by
 have a:=Lib.hid h
 obtain ⟨A,c,rfl,_⟩:=h
 go_enter Tryz.func5,Tryz.ntmps5
 go_wp2_with fail
 go_ret
 refine ⟨rfl,⟨_,0,Nat.zero_le _,heap_alloc_new w _,a.out.keep (fun g hg=>Below.heap_alloc _ _ _ hg)⟩,by simp,(Below.refl _ _).alloc (Nat.le_refl _) _⟩
end Go.Proofs.YtkjbdagicjbjjaaGreat
namespace Go.Proofs.YtkjbdagicjbjjaaGreat
open Go.RowKit
set_option maxRecDepth 100000
set_option maxHeartbeats 1000000
theorem BW.agree {b:Nat} {ns:List Int} {w w':World} (h:BW b ns w) (a:∀ k,k≤b→w'.heap[k]?=w.heap[k]?):BW b ns w':=by
 obtain ⟨v,k,d,h2,c⟩:=h
 exact ⟨v,k,d,(a b (Nat.le_refl _)).trans h2,c.keep fun g hg=>a g (Nat.le_of_lt hg)⟩
theorem kM (w:World) (b:Nat) (hb:b < w.heap.size):∃ w0:World,w0.heap.size=b∧Below w0.heap.size w0 w:=by
 refine ⟨{ w with heap:=w.heap.extract 0 b },by simp; omega,rfl,rfl,rfl,by simp; omega,fun k a=>?_⟩
 simp at a
 simp [Array.getElem?_extract]
 omega
def BH (w0:World) (b:Nat) (ns:List Int):Th where
 F k:=k=b
 P w:=∃ u,BW b ns u∧(∀ k,k < b→u.heap[k]?=w0.heap[k]?)∧u.heap[b]?=w.heap[b]?
 fr w w' h _ hk:=by
  obtain ⟨u,h1,h2,h3⟩:=h
  have hlt:b < w.heap.size:=by
   obtain ⟨v,k,_,hc,_⟩:=h1
   exact LN (h3.symm.trans hc)
  exact ⟨u,h1,h2,h3.trans (hk b rfl hlt).symm⟩
def Bj (b:Nat) (w:World):Th where
 F k:=b < k∧k < w.heap.size
 P u:=w.heap.size≤u.heap.size∧∀ k,b < k→k < w.heap.size→u.heap[k]?=w.heap[k]?
 fr u u' h hs hk:=⟨Nat.le_trans h.1 hs,fun k h1 h2=>(hk k ⟨h1,h2⟩ (Nat.lt_of_lt_of_le h2 h.1)).trans (h.2 k h1 h2)⟩
theorem VL {α:Type} {l:List α} {i:Nat} {x:α} (h:l[i]?=some x):l.set i x=l:=by
 refine List.ext_getElem? fun j=>?_
 rw [List.getElem?_set]
 split
 ·rename_i hij
  rw [← hij,h,if_pos (List.getElem?_eq_some_iff.1 h).1]
 ·rfl
section
variable {b:Nat} {ns:List Int} {w0 w w':World} {M:List Az} {L T X:List Th}
theorem Wk.tapeOk (K:Wk w0 w M L T) (e:w0.heap.size=b) (i:Nat) (hi:L[i]?=some (BH w0 b ns)):BW b ns w:=by
 obtain ⟨u,c,h2,a⟩:=K.H.all (K.ix i) _ (K.at i hi)
 refine c.agree fun k d=>?_
 rcases Nat.lt_or_ge k b with h | h
 ·exact (K.B.block k (by omega)).trans (h2 k h).symm
 ·obtain rfl:k=b:=by omega
  exact a.symm
theorem Wk.tick (K:Wk w0 w M L T) (f:w0.heap.size=b) (i:Nat) (hi:L[i]?=some (BH w0 b ns)) (d:BW b ns w') (hb:CE b w w'):Wk w0 w' M L T:=by
 have e:Below w0.heap.size w w':=hb.below (by omega) K.size
 refine ⟨K.B.trans e,?_⟩
 have c:=K.at i hi
 have:=K.H.set (K.ix i) c (t:=BH w0 b ns) hb.size ⟨w',d,fun k a=>(K.B.trans e).block k (by omega),rfl⟩ (fun k a=>⟨by rw [show k=b from a]; exact d.lt,.inl a⟩) (fun k a hf=>hb.block k a hf)
 rwa [VL c] at this
theorem Wk.tape (h:BW b ns w):∃ w0:World,w0.heap.size=b∧Wk w0 w [] [BH w0 b ns,Bj b w] []:=by
 obtain ⟨w0,g,e⟩:=kM w b h.lt
 refine ⟨w0,g,e,e.size,fun i t hi=>?_,fun i t hi k d=>?_,fun i j s t hi a c k hs ht=>?_⟩
 ·match i,hi with
  | 0,hi=>
   obtain rfl:=Option.some.inj hi
   exact ⟨w,h,fun k d=>e.block k (by omega),rfl⟩
  | 1,hi=>
   obtain rfl:=Option.some.inj hi
   exact ⟨Nat.le_refl _,fun _ _ _=>rfl⟩
 ·have f:=h.lt
  match i,hi with
  | 0,hi=>
   obtain rfl:=Option.some.inj hi
   obtain rfl:k=b:=d
   omega
  | 1,hi=>
   obtain rfl:=Option.some.inj hi
   obtain ⟨l,h2⟩:b < k∧k < w.heap.size:=d
   omega
 ·match i,j,hi,a with
  | 0,0,hi,a=>exact c rfl
  | 1,1,hi,a=>exact c rfl
  | 0,1,hi,a=>
   obtain rfl:=Option.some.inj hi
   obtain rfl:=Option.some.inj a
   obtain rfl:k=b:=hs
   exact absurd ht.1 (Nat.lt_irrefl _)
  | 1,0,hi,a=>
   obtain rfl:=Option.some.inj hi
   obtain rfl:=Option.some.inj a
   obtain rfl:k=b:=ht
   exact absurd hs.1 (Nat.lt_irrefl _)
theorem Wk.out (K:Wk w0 w' M (BH w0 b ns :: Bj b w :: X) T) (f:w0.heap.size=b) (a:Below w0.heap.size w0 w):BW b ns w'∧CE b w w':=by
 obtain ⟨e,h2⟩:=K.H.all (K.ix 1) _ (K.at 1 rfl)
 refine ⟨K.tapeOk f 0 rfl,K.B.os.trans a.os.symm,K.B.tape.trans a.tape.symm,K.B.output.trans a.output.symm,e,fun k d c=>?_⟩
 rcases Nat.lt_or_ge k b with h | h
 ·exact (K.B.block k (by omega)).trans (a.block k (by omega)).symm
 ·exact h2 k (by omega) d
theorem Ac.up {t:Th} (h:Ac b w (t :: X)) (ht:t.F b):Ac (b + 1) w X:=by
 refine ⟨(h.lo 0 t rfl b ht).2,fun i s hs=>h.all (i + 1) s hs,fun i s hs k a=>?_,fun i j s u hs hu c=>h.apart (i + 1) (j + 1) s u hs hu (by omega)⟩
 have d:=h.lo (i + 1) s hs k a
 have h2:k≠b:=fun he=>h.apart 0 (i + 1) t s rfl hs (by omega) b ht (he ▸ a)
 omega
theorem Wk.fin (K:Wk w0 w' [] (BH w0 b ns :: Bj b w :: X) []) (a:w0.heap.size=b):Ac (b + 1) w' X:=by
 subst a
 have h:=K.H
 simp only [List.map_nil,List.nil_append,List.append_nil] at h
 exact Ac.up (h.erase 1) rfl
theorem Ac.but {c:Nat} (h:Ac c w L) (hc:b < c) (hb:CE b w w'):Ac c w' L:=h.fr hb.size fun k a h2=>hb.block k h2 (by omega)
theorem BE {P:Program} {f:FuncId} {R:Ending→World→Prop} {n:Nat} {todo:List Item} {E:Nat→Value} {g:FuncId} {args:List Value} {Q:Ending→World→Prop} (K:Wk w0 w M L T) (k:w0.heap.size=b) (i:Nat) (hi:L[i]?=some (BH w0 b ns)) (h:Calls P g args.toArray w Q) (d:∀ e w',Q e w'→BW b ns w'∧CE b w w')
  (j:∀ e w',Q e w'→Wk w0 w' M L T→∃ v,e=.returned v∧At P f R (AC todo) (Fr n (Aq E (BK n E todo) v)) w') (hc:(Ii n E todo).map (fun c=>(c.1,c.2.1.map (Ax n E)))=some (g,args):=by kernel_rfl) (hg:DG P g=true:=by kernel_rfl):At P f R todo (Fr n E) w:=
 A7 h (fun e w' a=>j e w' a (K.tick k i hi (d e w' a).1 (d e w' a).2)) hc hg
end
theorem BQ.ok {b:Nat} {ns:List Int} {n:Int} {w:World}:∀ e w',BQ b ns n w e w'→BW b ns w'∧CE b w w':=fun _ _ ⟨_,_,_,a,h2⟩=>⟨a,h2⟩
end Go.Proofs.YtkjbdagicjbjjaaGreat
namespace Go.Proofs.YtkjbdagicjbjjaaGreat
section
variable {P:Program} {ops:Array Oper} {Q:Exit→Act→World→Prop} {md:Region.Mode} {W:Wr} {listed0:Array Bool} {a0:Act} {J:Array Bool→(Nat→Value)→World→Prop} {Ext:World→World→Prop} {L:List Ct} {w0:World}
def Ct.obJ (P:Program) (ops:Array Oper) (a0:Act) (W:Wr) (J:Array Bool→(Nat→Value)→World→Prop) (Ext:World→World→Prop) (L:List Ct) (l:Ct):Prop:=
 ∀ (listed:Array Bool) (vals:Nat→Value) (w:World),listed.getD l.idx true=false→J listed vals w→(∀ m∈L,m.idx∈l.before→listed.getD m.idx false=true∧m.holds vals w)→∀ o,ops[l.idx]?=some o→
  if Region.wanted o (Jd ops a0 W vals) then AM P o (IM a0 W vals) w (fun v w'=>J (listed.setIfInBounds l.idx true) (Dw vals l.idx v) w'∧Ext w w'∧l.holds (Dw vals l.idx v) w')
  else J (listed.setIfInBounds l.idx true) (Dw vals l.idx undef) w∧l.holds (Dw vals l.idx undef) w
theorem eL {n:Nat} (h:EZ md ops W listed0 n L=true) {l:Ct} (hl:l∈L) {j:Nat} (a:j∈l.before):(∃ m∈L,m.idx=j)∧True:=by
 have F:=EY h
 obtain ⟨o,ho⟩:=F.op l hl
 obtain ⟨b,_⟩:=F.bef l hl o ho j a
 obtain ⟨m,hm,he⟩:=List.mem_map.1 b
 exact ⟨⟨m,hm,he⟩,trivial⟩
theorem Yn (hok:EZ md ops W listed0 a0.tmps.size L=true) (hC:J listed0 (fun _=>undef) w0) (i0:∀ w:World,Ext w w) (d0:∀ a b c:World,Ext a b→Ext b c→Ext a c)
  (e0:∀ l∈L,∀ vs w w',Ext w w'→l.says vs w→l.says vs w') (s0:∀ l∈L,l.obJ P ops a0 W J Ext L) {fuel:Nat}
  (H:∀ vals w,J ((L.map (·.idx)).foldl (fun b i=>b.setIfInBounds i true) listed0) vals w→Ext w0 w→(∀ l∈L,l.holds vals w)→wpAny P md ops Q fuel ((L.map (·.idx)).foldl (fun b i=>b.setIfInBounds i true) listed0) (fin ops vals (L.map (·.idx)) a0) w) :
  wpAny P md ops Q (L.length + fuel) listed0 a0 w0:=by
 have F:=EY hok
 have key:∀ (m:Nat) (d:Array Bool) (vals:Nat→Value) (a:Act) (w:World),G4 md ops W listed0 a0 (fun _=>True) Ext L w0 d vals a w→Fa d L=m→J d vals w→wpAny P md ops Q (m + fuel) d a w:=by
  intro m
  induction m with
  | zero=>
   intro d vals a w I hu k0
   have c0:=fun l (hl:l∈L)=>Nf hu hl
   have h:=fun hj=>H vals w hj I.ext (fun l hl=>I.says l hl (c0 l hl))
   have e1:d=(L.map (·.idx)).foldl (fun b i=>b.setIfInBounds i true) listed0:=by
    refine Array.ext_getElem? fun j=>?_
    rw [Ko]
    by_cases hj:j∈L.map (·.idx)
    ·obtain ⟨l,hl,rfl⟩:=List.mem_map.1 hj
     have z:l.idx < listed0.size:=GZ (F.fresh l hl)
     rw [if_pos ⟨hj,z⟩,Ns (by rw [I.size,← F.size]; exact z) false,c0 l hl]
    ·rw [if_neg (fun h=>hj h.1)]; exact I.keep j hj
   have e2:a=fin ops vals (L.map (·.idx)) a0:=by
    have hs:=OU ops vals (L.map (·.idx)) a0
    have ht:a.tmps=(fin ops vals (L.map (·.idx)) a0).tmps:=by
     refine Array.ext_getElem? fun t=>?_
     cases hw:W.of t with
     | none=>
      rw [I.other t hw,NR]
      intro i hi hd
      obtain ⟨l,hl,rfl⟩:=List.mem_map.1 hi
      obtain ⟨o,ho⟩:=F.op l hl
      have j0:o.dst=some t:=by unfold Ck at hd; rw [ho] at hd; exact hd
      have:=(F.dst l hl o ho t j0).2
      rw [hw] at this; cases this
     | some j=>
      obtain ⟨n0,h0⟩:=F.wr t j hw
      obtain ⟨l,hl,rfl⟩:=List.mem_map.1 n0
      obtain ⟨o,ho⟩:=F.op l hl
      have j0:o.dst=some t:=by unfold Ck at h0; rw [ho] at h0; exact h0
      rw [I.done t _ hw (c0 l hl),Vz ops vals t l.idx _ _ _ n0 h0 (F.dst l hl o ho t j0).1]
      intro i hi hd
      obtain ⟨l',m0,rfl⟩:=List.mem_map.1 hi
      obtain ⟨o',l0⟩:=F.op l' m0
      have p0:o'.dst=some t:=by unfold Ck at hd; rw [l0] at hd; exact hd
      have:=(F.dst l' m0 o' l0 t p0).2
      rw [hw] at this; exact (Option.some.inj this).symm
    cases a; cases hf:fin ops vals (L.map (·.idx)) a0
    rw [hf] at hs ht
    simp only at hs ht
    have hd:=I.defers
    simp only at hd
    subst ht
    rw [hs.2,hd]
   have h:=h (by rw [← e1]; exact k0)
   rw [Nat.zero_add,e1,e2]; exact h
  | succ m ih=>
   intro d vals a w I hu k0
   rw [Nat.succ_add]
   have some:∃ l∈L,d.getD l.idx true=false:=by
    rcases hx:L.filter (fun l=>!d.getD l.idx false) with _ | ⟨l,r⟩
    ·unfold Fa at hu; rw [hx] at hu; simp at hu
    ·have:l∈L.filter (fun l=>!d.getD l.idx false):=by rw [hx]; simp
     rw [List.mem_filter] at this
     refine ⟨l,this.1,?_⟩
     have z:l.idx < d.size:=by rw [I.size,← F.size]; exact GZ (F.fresh l this.1)
     have h2:=this.2
     simp [z] at h2 ⊢; exact h2
   refine ⟨fun hr=>?_,fun i hi=>?_⟩
   ·exfalso
    have:∀ (k:Nat) (l:Ct),l∈L→l.idx=k→d.getD l.idx true=true:=by
     intro k
     induction k using Nat.strongRecOn with
     | _ k ihk=>
      intro l hl hk
      cases hu:d.getD l.idx true with
      | true=>rfl
      | false=>
       exfalso
       obtain ⟨o,ho⟩:=F.op l hl
       have hm:l.idx∈Region.ready md ops d:=by
        rw [mem_ready]
        refine ⟨hu,o,ho,fun e he hb=>?_⟩
        rcases F.edge l hl o ho e he hb with ⟨h1,h2⟩ | ⟨h1,h2⟩
        ·have:=I.keep _ h2
         rw [Array.getD_eq_getD_getElem?,this,← Array.getD_eq_getD_getElem?]; exact h1
        ·obtain ⟨m',y,b0⟩:=List.mem_map.1 h2
         have g:=ihk m'.idx (by omega) m' y rfl
         rw [b0] at g
         have z:e.on < d.size:=by rw [I.size,← F.size,← b0]; exact GZ (F.fresh m' y)
         simp [z] at g ⊢; exact g
       rw [hr] at hm; cases hm
    obtain ⟨l,hl,hf⟩:=some
    rw [this _ l hl rfl] at hf; cases hf
   ·have z0:=hi
    rw [mem_ready] at hi
    obtain ⟨u,o,ho,s⟩:=hi
    have hA:i∈L.map (·.idx):=by
     by_cases hA:i∈L.map (·.idx)
     ·exact hA
     ·exfalso
      have hk:=I.keep i hA
      have r0:listed0.getD i true=false:=by rw [Array.getD_eq_getD_getElem?,← hk,← Array.getD_eq_getD_getElem?]; exact u
      rcases F.tail i o ho r0 hA with ⟨e,he,hb,t0,hx⟩ | hx
      ·have hd:=s e he hb
       have:=I.keep _ hx
       rw [Array.getD_eq_getD_getElem?,this,← Array.getD_eq_getD_getElem?,t0] at hd; cases hd
      ·obtain ⟨l,hl,hf⟩:=some
       have g0:=ER hf
       obtain ⟨e,he,hb,hy⟩:=hx l.idx (List.mem_map.2 ⟨l,hl,rfl⟩)
       have hd:=s e he hb
       rcases hy with h | ⟨m',y,b0,h⟩
       ·rw [← h,hd] at g0; cases g0
       ·have:=I.shut m' y (by rw [b0]; exact hd) _ h
        rw [this] at g0; cases g0
    obtain ⟨l,hl,rfl⟩:=List.mem_map.1 hA
    have hb:∀ j∈l.before,d.getD j false=true:=by
     intro j hj
     obtain ⟨_,_,e,he,v0,hx⟩:=F.bef l hl o ho j hj
     have hd:=s e he v0
     rcases hx with rfl | ⟨m',y,b0,hx⟩
     ·exact hd
     ·exact I.shut m' y (by rw [b0]; exact hd) j hx
    have z:=GZ u
    have q:Fa (d.setIfInBounds l.idx true) L=m:=by
     have:=LY z (ER u) F.nodup hA
     omega
    have p:=s0 l hl d vals w u k0 (fun m' y q0=>⟨hb _ q0,I.says m' y (hb _ q0)⟩) o ho
    unfold wpOp
    simp only [ho]
    rw [I.wanted F hl ho hb]
    split
    ·rename_i hw
     rw [if_pos hw] at p
     refine .inl ?_
     unfold Oper.wp
     rw [I.exec F hl ho hb]
     unfold AM at p
     cases hr:(execOp (IM a0 W vals) o).run P w with
     | halt x w'=>rw [hr] at p; exact p.elim
     | ok n w'=>
      rw [hr] at p
      cases n <;> simp only at p <;> simp only [Oper.upon]
      case value v=>exact ih _ _ _ _ (I.step F (fun l hl vs w w' _ he h=>e0 l hl vs w w' he h) d0 hl ho hb u trivial p.2.1 p.2.2) q p.1
      case skip=>exact ih _ _ _ _ (I.step F (fun l hl vs w w' _ he h=>e0 l hl vs w w' he h) d0 hl ho hb u trivial p.2.1 p.2.2) q p.1
      case enter f args=>
       refine p.mono fun e x0 he=>?_
       obtain ⟨v,rfl,h1,h2,h3⟩:=he
       exact ih _ _ _ _ (I.step F (fun l hl vs w w' _ he h=>e0 l hl vs w w' he h) d0 hl ho hb u trivial h2 h3) q h1
    ·rename_i hw
     rw [if_neg hw] at p
     exact ih _ _ _ _ (I.step F (fun l hl vs w w' _ he h=>e0 l hl vs w w' he h) d0 hl ho hb u trivial (i0 w) p.2) q p.1
 refine key L.length listed0 (fun _=>undef) a0 w0 ⟨F.size,fun _ _=>rfl,?_,rfl,rfl,?_,fun _ _ _ _=>rfl,fun _ _=>rfl,trivial,i0 _,?_⟩ ?_ hC
 ·intro l hl hd; rw [ER (F.fresh l hl)] at hd; cases hd
 ·intro t j hw hd
  obtain ⟨l,hl,rfl⟩:=List.mem_map.1 (F.wr t j hw).1
  rw [ER (F.fresh l hl)] at hd; cases hd
 ·intro l hl hd; rw [ER (F.fresh l hl)] at hd; cases hd
 ·unfold Fa
  rw [List.filter_eq_self.2]
  intro l hl; rw [ER (F.fresh l hl)]; rfl
end
section
variable {P:Program} {ops:Array Oper} {Q:Exit→Act→World→Prop} {md:Region.Mode} {W:Wr} {listed0:Array Bool} {n:Nat} {E:Nat→Value} {J:Array Bool→(Nat→Value)→World→Prop} {Ext:World→World→Prop} {L:List Ct} {w0:World}
def sv (P:Program) (ops:Array Oper) (n:Nat) (E:Nat→Value) (W:Wr) (J:Array Bool→(Nat→Value)→World→Prop) (Ext:World→World→Prop) (L:List Ct) (l:Ct):Prop:=
 (∀ vs w w',Ext w w'→l.says vs w→l.says vs w')∧
  ∀ (listed:Array Bool) (vals:Nat→Value) (w:World),listed.getD l.idx true=false→(∀ j∈l.before,listed.getD j false=true)→J listed vals w→FP l.before vals w L→AM P (ops.getD l.idx default) (C0 n E W vals) w (fun v w'=>J (listed.setIfInBounds l.idx true) (Dw vals l.idx v) w'∧Ext w w'∧l.says (l.deps.map (Dw vals l.idx v)) w')
def LU (P:Program) (ops:Array Oper) (n:Nat) (E:Nat→Value) (W:Wr) (J:Array Bool→(Nat→Value)→World→Prop) (Ext:World→World→Prop) (L:List Ct):List Ct→Prop
 | []=>True
 | l :: r=>sv P ops n E W J Ext L l∧LU P ops n E W J Ext L r
theorem LU.all:∀ {r:List Ct},LU P ops n E W J Ext L r→∀ l∈r,sv P ops n E W J Ext L l
 | [],_,l,hl=>by cases hl
 | m :: r,h,l,hl=>by
  rcases List.mem_cons.1 hl with rfl | a
  ·exact h.1
  ·exact LU.all h.2 l a
theorem eN (hok:(EZ md ops W listed0 n L && Gc ops L)=true) (z:J listed0 (fun _=>undef) w0) (g:∀ w:World,Ext w w) (f:∀ a b c:World,Ext a b→Ext b c→Ext a c)
  (t:LU P ops n E W J Ext L L) {fuel k:Nat} (y:k=L.length + fuel)
  (H:∀ vals w,J ((L.map (·.idx)).foldl (fun b i=>b.setIfInBounds i true) listed0) vals w→Ext w0 w→FK vals w L→wpAny P md ops Q fuel ((L.map (·.idx)).foldl (fun b i=>b.setIfInBounds i true) listed0) (Fr n (Kq ops vals (L.map (·.idx)) E)) w) :
  wpAny P md ops Q k listed0 (Fr n E) w0:=by
 subst y
 rw [Bool.and_eq_true] at hok
 refine Yn (a0:=Fr n E) (by rw [RD]; exact hok.1) z g f (fun l hl=>(t.all l hl).1) (fun l hl=>?_) (fun vals w h1 h2 h3=>by rw [V0]; exact H vals w h1 h2 (Lt h3))
 intro d vals w q s hm o ho
 have hb:=hok.2
 unfold Gc at hb
 rw [List.all_eq_true] at hb
 have hg:=hb l hl
 have hx:=(t.all l hl).2 d vals w q (fun j u=>by
  obtain ⟨⟨m,e,p⟩,_⟩:=eL hok.1 hl u
  obtain rfl:=p
  exact (hm m e u).1) s (Ml fun m e r=>(hm m e r).2)
 have h:ops.getD l.idx default=o:=by rw [Array.getD_eq_getD_getElem?,ho]; rfl
 rw [h] at hg hx
 have v:Region.wanted o (Jd ops (Fr n E) W vals)=true:=by
  unfold Region.wanted
  cases hgg:o.guard with
  | none=>rfl
  | some x=>rw [hgg] at hg; cases hg
 rw [if_pos v,V4]
 exact hx
end
end Go.Proofs.YtkjbdagicjbjjaaGreat

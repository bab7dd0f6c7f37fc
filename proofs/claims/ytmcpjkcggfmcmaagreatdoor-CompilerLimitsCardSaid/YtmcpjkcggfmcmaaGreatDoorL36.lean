/-
  Part 36 of a proof: contracts of functions.
-/
import Derived.Test.YtmcpjkcggfmcmaaGreatDoorL35
import Derived.Laws.MakeOwn
import Derived.Test.YtmcpjkcggfmcmaaGreatDoorL04
set_option linter.all false
namespace Go.Proofs.YtmcpjkcggfmcmaaGreatDoor
noncomputable section
open Go.RowKit
set_option maxRecDepth 100000
set_option maxHeartbeats 1000000
def I3 (ds:List Df) (l:List Nat):Prop:=(∀ j∈l,j < ds.length)∧l.length≤1000000
theorem Hx {ds:List Df} {act:List Nat} (hin:∀ i∈act,i < ds.length):∀ (es:List Ex) (a:Int) (r:List Nat),(∀ j∈r,j < ds.length)→(∀ j∈(DM ds act es a r).1,j < ds.length)∧(DM ds act es a r).1.length≤r.length + es.length
 | [],a,r,h=>by
  rw [DM]
  exact ⟨fun j hj=>h j (W9.1 (Q0 hj)),by have:=KJ (Eo r); rw [IM] at this; simpa using this⟩
 | e :: es,a,r,h=>by
  rw [DM,List.length_cons]
  cases hm:!(Ao ds act e).2
  ·simp only [cond_false]
   cases BU (ds.getD (Ao ds act e).1 default)
   ·have:=Hx hin es a r h
    exact ⟨this.1,by have:=this.2; simp only [cond_false]; omega⟩
   ·have:=Hx hin es a (r++[(Ao ds act e).1]) (fun j hj=>by
     rcases List.mem_append.1 hj with hj | hj
     ·exact h j hj
     ·rw [List.mem_singleton.1 hj]; exact JP hin hm)
    rw [List.length_append,List.length_singleton] at this
    exact ⟨this.1,by have:=this.2; simp only [cond_true]; omega⟩
  ·exact ⟨fun j hj=>(by cases hj),Nat.zero_le _⟩
theorem XM {ds:List Df} {act:List Nat} {i:Nat} (hin:∀ i∈act,i < ds.length) (hi:i < ds.length) (hn:∀ d∈ds,nE d.body≤1000000):I3 ds (Cw ds act i).1:=by
 have h:=Hx hin (BL [] ((ds.getD i default).body)) 0 [] (fun j hj=>by cases hj)
 have h1:=MV (ds.getD i default).body
 have h2:=hn _ (Ds hi)
 exact ⟨h.1,by have:=h.2; simp only [List.length_nil] at this; exact Nat.le_trans this (by omega)⟩
theorem GV {ds:List Df} {p1:Int} (hn:∀ d∈ds,nE d.body≤1000000):∀ (es:List Nat) (a0:Int) (a1:List Nat) (a2:List (Nat×List Nat)),(∀ i∈es,i < ds.length)→(∀ i∈a1,i < ds.length)→(∀ p∈a2,I3 ds p.2)→
  (∀ i∈(Br ds p1 es a0 a1 a2).1,i < ds.length)∧(Br ds p1 es a0 a1 a2).1.length≤a1.length + es.length∧∀ p∈(Br ds p1 es a0 a1 a2).2.1,I3 ds p.2
 | [],a0,a1,a2,_,h1,h2=>by rw [Br]; exact ⟨h1,Nat.le_refl _,h2⟩
 | e :: es,a0,a1,a2,h0,h1,h2=>by
  have he:e < ds.length:=h0 e (by simp)
  have h0':∀ i∈es,i < ds.length:=fun i hi=>h0 i (by simp [hi])
  rw [Br,List.length_cons]
  cases !(BU (ds.getD e default))
  ·simp only [cond_false]
   cases !((Cw ds (Aw ds p1) e).2 == 0)
   ·have:=GV (p1:=p1) hn es a0 (a1++[e]) ((e,(Cw ds (Aw ds p1) e).1) :: a2) h0' (fun j hj=>by
     rcases List.mem_append.1 hj with hj | hj
     ·exact h1 j hj
     ·rw [List.mem_singleton.1 hj]; exact he) (fun p hp=>by
     rcases List.mem_cons.1 hp with rfl | hp
     ·exact XM EK he hn
     ·exact h2 p hp)
    simp only [List.length_append,List.length_singleton] at this
    exact ⟨this.1,by have:=this.2.1; simp only [cond_false]; omega,this.2.2⟩
   ·exact ⟨fun j hj=>(by cases hj),Nat.zero_le _,fun j hj=>(by cases hj)⟩
  ·have:=GV (p1:=p1) hn es a0 a1 a2 h0' h1 h2
   exact ⟨this.1,by have:=this.2.1; simp only [cond_true]; omega,this.2.2⟩
theorem J3 {n:List UInt8} {ds:List Df} {p1:Int} (hn:∀ d∈ds,nE d.body≤1000000):(∀ i∈(BN n ds p1).1,i < ds.length)∧(BN n ds p1).1.length≤ds.length∧∀ p∈(BN n ds p1).2.1,I3 ds p.2:=by
 unfold BN
 cases !(Dt n ds p1 == 0)
 ·have:=GV (p1:=p1) hn (Aw ds p1) 0 [] [] EK (fun j hj=>by cases hj) (fun j hj=>by cases hj)
  have hl:=Ih (ds:=ds) (p1:=p1)
  exact ⟨this.1,by have:=this.2.1; simp only [List.length_nil] at this; exact Nat.le_trans this (by omega),this.2.2⟩
 ·exact ⟨fun j hj=>(by cases hj),Nat.zero_le _,fun j hj=>(by cases hj)⟩
theorem J4 {β:Type} {P:β→Prop} {d:β} (hd:P d):∀ (m:List (Nat×β)) (i:Nat),(∀ p∈m,P p.2)→P ((BV m i).getD d)
 | [],_,_=>hd
 | p :: m,i,h=>by
  rw [BV]
  by_cases hp:p.1=i
  ·rw [if_pos hp]; exact h p (by simp)
  ·rw [if_neg hp]; exact J4 hd m i fun q hq=>h q (by simp [hq])
theorem J1 {nodes:List Nat} {ns:List (Nat×List Nat)}:∀ (k:Nat) (r:List Nat) (ml:List (Nat×Bool)),(∀ i∈r,i∈nodes)→r.length≤nodes.length→(∀ i∈(GU nodes ns k r ml).1,i∈nodes)∧(GU nodes ns k r ml).1.length≤nodes.length
 | 0,r,ml,h,hl=>⟨h,hl⟩
 | k + 1,r,ml,h,hl=>by
  rw [GU]
  cases hc:decide ((r.length:Int) < (nodes.length:Int))
  ·exact ⟨h,hl⟩
  ·simp only [cond_true]
   have hc:=of_decide_eq_true hc
   cases hx:decide (CT (Dl ml ns) nodes < 0)
   ·exact J1 k _ _ (fun i hi=>by
     rcases List.mem_append.1 hi with hi | hi
     ·exact h i hi
     ·rw [List.mem_singleton.1 hi]; exact Ds (KC hx).2) (by rw [List.length_append,List.length_singleton]; omega)
   ·exact ⟨fun j hj=>(by cases hj),Nat.zero_le _⟩
def Ap (n:List UInt8) (ds:List Df) (p1:Int):List Nat×Int:=cond (!((BN n ds p1).2.2 == 0)) ([],(BN n ds p1).2.2) (FJ (BN n ds p1).1 (BN n ds p1).2.1)
theorem EN {n:List UInt8} {ds:List Df} {p1:Int} (hn:∀ d∈ds,nE d.body≤1000000):(∀ i∈(Ap n ds p1).1,i < ds.length)∧(Ap n ds p1).1.length≤ds.length:=by
 unfold Ap
 have h:=J3 (n:=n) (p1:=p1) hn
 cases !((BN n ds p1).2.2 == 0)
 ·have h2:=J1 (nodes:=(BN n ds p1).1) (ns:=(BN n ds p1).2.1) ((BN n ds p1).1.length + 1) [] [] (fun j hj=>(by cases hj)) (Nat.zero_le _)
  exact ⟨fun i hi=>h.1 i (h2.1 i hi),Nat.le_trans h2.2 h.2.1⟩
 ·exact ⟨fun j hj=>(by cases hj),Nat.zero_le _⟩
noncomputable def RD:Code:=Tryz.f19.body.getD .skip
def Ua:List Item:=AB 60 ([.code RD])
def UZ:List Item:=AB 60 (AF Ua)
def oh:List Item:=AB 60 (AL UZ)
theorem Yn (p0a:List UInt8) (p0bA:Option Addr) (ds:List (Df)) (p0bc:Nat) (p1:Int) (w:World) (h_ds:rowsDf w p0bA ds) (hl_ds:ds.length≤4294967296) (hs:p0a.length≤4294967296) (ht:∀ d∈ds,GB d) (hlim:∀ d∈ds,DT d.body) (hn:∀ d∈ds,nE d.body≤1000000):Calls Tryz.prog 19 ([.agg ⟨[.string ⟨⟨p0a⟩⟩,.slice p0bA ds.length p0bc]⟩,.int .i64 p1]:List Value).toArray w fun e w'=>∃ (rA0:Option Addr) (rc0:Nat),e=.returned (.tuple #[.slice rA0 (Ap p0a ds p1).1.length rc0,.int .i64 (Ap p0a ds p1).2])∧Below w.heap.size w w'∧AY w.heap.size w' [BE rA0 rc0 (Ap p0a ds p1).1]:=by
 refine Ff (args:=[.agg ⟨[.string ⟨⟨p0a⟩⟩,.slice p0bA ds.length p0bc]⟩,.int .i64 p1]) (fn:=Tryz.f19) (c:=RD) (n:=21) ?_
 have B:Below w.heap.size w w:=Below.refl _ _
 have H:AY w.heap.size w (List.map Th.ent []++[]):=AY.nil (Nat.le_refl _)
 refine Bi 60 ([.code RD]) w.heap.size [] [(0,0)] Ua [(1,.int .i64 p1),(2,.pointer (some ⟨w.heap.size,0,none⟩)),(9,.agg ⟨[.string ⟨⟨p0a⟩⟩,.slice p0bA ds.length p0bc]⟩),(10,.int .i64 p1)] (w.heap.size + 1) [⟨w.heap.size,0,[.string ⟨⟨p0a⟩⟩,.slice p0bA ds.length p0bc],38,true⟩] (H.lies (M:=[])) fun w1 E1 hL1 hK1=>?_
 replace B:=B.trans (H.keptB (M:=[]) hK1)
 replace H:AY w.heap.size w1 (List.map Th.ent [⟨w.heap.size,0,[.string ⟨⟨p0a⟩⟩,.slice p0bA ds.length p0bc],38,true⟩]++[]):=H.run (M:=[]) (M':=[⟨w.heap.size,0,[.string ⟨⟨p0a⟩⟩,.slice p0bA ds.length p0bc],38,true⟩]) hL1 hK1 rfl
 refine I0 50 [.tmp 9,.tmp 10] (some 11) [.agg ⟨[.string ⟨⟨p0a⟩⟩,.slice p0bA ds.length p0bc]⟩,.int .i64 p1] (by kernel_rfl) (by kernel_rfl) (by kernel_rfl) ((Qd p0a p0bA ds p0bc p1 w1 (h_ds.below B) hl_ds hs ht hlim hn).mono fun en w2 hh=>?_)
 have hin:=J3 (n:=p0a) (p1:=p1) hn
 have hO:Ap p0a ds p1=_:=rfl
 rw [show Ap p0a ds p1=cond (!((BN p0a ds p1).2.2 == 0)) ([],(BN p0a ds p1).2.2) (FJ (BN p0a ds p1).1 (BN p0a ds p1).2.1) from rfl]
 clear hO
 generalize BN p0a ds p1=g at hh hin ⊢
 obtain ⟨nodes,ns,er⟩:=g
 rcases hh with ⟨rA,rc,rb,rx,rfl,hrx,b2,h0,Hn⟩ | ⟨rfl,h0,b2⟩
 ·replace hrx:rx.map Gg=ns:=hrx
  obtain rfl:er=0:=h0
  replace Hn:AY w1.heap.size w2 [BE rA rc nodes,AZ.th H3 rb (rx.map IV),Fk rx]:=Hn
  refine ⟨_,rfl,?_⟩
  replace H:AY w.heap.size w2 (List.map Th.ent [⟨w.heap.size,0,[.string ⟨⟨p0a⟩⟩,.slice p0bA ds.length p0bc],38,true⟩]++[BE rA rc nodes,AZ.th H3 rb (rx.map IV),Fk rx]):=H.join b2 Hn
  replace B:=B.trans (b2.mono B.size)
  refine Bi 60 (AF Ua) w2.heap.size [⟨w.heap.size,0,[.string ⟨⟨p0a⟩⟩,.slice p0bA ds.length p0bc],38,true⟩] [(1,0)] UZ [(6,.pointer (some ⟨w2.heap.size,0,none⟩)),(7,.int .i64 0),(15,.bool (!((0:Int) == 0)))] (w2.heap.size + 1) [⟨w.heap.size,0,[.string ⟨⟨p0a⟩⟩,.slice p0bA ds.length p0bc],38,true⟩,⟨w2.heap.size,0,[.slice rA nodes.length rc,.map (some rb)],108,true⟩] (H.lies (M:=[⟨w.heap.size,0,[.string ⟨⟨p0a⟩⟩,.slice p0bA ds.length p0bc],38,true⟩])) fun w3 E3 hL3 hK3=>?_
  replace B:=B.trans (H.keptB (M:=[⟨w.heap.size,0,[.string ⟨⟨p0a⟩⟩,.slice p0bA ds.length p0bc],38,true⟩]) hK3)
  replace H:AY w.heap.size w3 (List.map Th.ent [⟨w.heap.size,0,[.string ⟨⟨p0a⟩⟩,.slice p0bA ds.length p0bc],38,true⟩,⟨w2.heap.size,0,[.slice rA nodes.length rc,.map (some rb)],108,true⟩]++[BE rA rc nodes,AZ.th H3 rb (rx.map IV),Fk rx]):=H.run (M:=[⟨w.heap.size,0,[.string ⟨⟨p0a⟩⟩,.slice p0bA ds.length p0bc],38,true⟩]) (M':=[⟨w.heap.size,0,[.string ⟨⟨p0a⟩⟩,.slice p0bA ds.length p0bc],38,true⟩,⟨w2.heap.size,0,[.slice rA nodes.length rc,.map (some rb)],108,true⟩]) hL3 hK3 rfl
  refine DB (!((0:Int) == 0)) (fun c4=>?_) (fun c4=>?_)
  ·exact absurd c4 (by decide)
  ·refine Bi 60 (AL UZ) w3.heap.size [⟨w.heap.size,0,[.string ⟨⟨p0a⟩⟩,.slice p0bA ds.length p0bc],38,true⟩,⟨w2.heap.size,0,[.slice rA nodes.length rc,.map (some rb)],108,true⟩] [(1,0)] oh [(17,.agg ⟨[.slice rA nodes.length rc,.map (some rb)]⟩)] w3.heap.size [⟨w.heap.size,0,[.string ⟨⟨p0a⟩⟩,.slice p0bA ds.length p0bc],38,true⟩,⟨w2.heap.size,0,[.slice rA nodes.length rc,.map (some rb)],108,true⟩] (H.lies (M:=[⟨w.heap.size,0,[.string ⟨⟨p0a⟩⟩,.slice p0bA ds.length p0bc],38,true⟩,⟨w2.heap.size,0,[.slice rA nodes.length rc,.map (some rb)],108,true⟩])) fun w4 E4 hL4 hK4=>?_
   replace B:=B.trans (H.keptB (M:=[⟨w.heap.size,0,[.string ⟨⟨p0a⟩⟩,.slice p0bA ds.length p0bc],38,true⟩,⟨w2.heap.size,0,[.slice rA nodes.length rc,.map (some rb)],108,true⟩]) hK4)
   replace H:AY w.heap.size w4 (List.map Th.ent [⟨w.heap.size,0,[.string ⟨⟨p0a⟩⟩,.slice p0bA ds.length p0bc],38,true⟩,⟨w2.heap.size,0,[.slice rA nodes.length rc,.map (some rb)],108,true⟩]++[BE rA rc nodes,AZ.th H3 rb (rx.map IV),Fk rx]):=H.run (M:=[⟨w.heap.size,0,[.string ⟨⟨p0a⟩⟩,.slice p0bA ds.length p0bc],38,true⟩,⟨w2.heap.size,0,[.slice rA nodes.length rc,.map (some rb)],108,true⟩]) (M':=[⟨w.heap.size,0,[.string ⟨⟨p0a⟩⟩,.slice p0bA ds.length p0bc],38,true⟩,⟨w2.heap.size,0,[.slice rA nodes.length rc,.map (some rb)],108,true⟩]) hL4 hK4 rfl
   subst hrx
   refine I0 51 [.tmp 17] (some 18) [.agg ⟨[.slice rA nodes.length rc,.map (some rb)]⟩] (by kernel_rfl) (by kernel_rfl) (by kernel_rfl) ((XK rA nodes rc rb rx w4 (H.rowsNat 2 rfl) (Nat.le_trans hin.2.1 hl_ds) (H.all 3 _ rfl) (H.all 4 _ rfl) (fun j hj=>Nat.le_trans (Nat.le_of_lt (hin.1 j hj)) hl_ds) (fun i=>⟨fun j hj=>?_,?_⟩)).mono fun en w5 hh=>?_)
   ·exact Nat.le_trans (Nat.le_of_lt ((J4 (P:=I3 ds) ⟨fun j hj=>(by cases hj),Nat.zero_le _⟩ _ i hin.2.2).1 j hj)) hl_ds
   ·exact Nat.le_trans (J4 (P:=I3 ds) ⟨fun j hj=>(by cases hj),Nat.zero_le _⟩ _ i hin.2.2).2 (by decide)
   obtain ⟨rA0,rc0,rfl,b5,Hr⟩:=hh
   refine ⟨_,rfl,?_⟩
   replace B:=B.trans (b5.mono B.size)
   refine D6 (fn:=Tryz.f19) 60 (.tuple #[.slice rA0 (FJ nodes (rx.map Gg)).1.length rc0,.int .i64 (FJ nodes (rx.map Gg)).2]) fun wz Bz=>⟨rA0,rc0,rfl,B.trans (Bz.mono B.size),(Hr.below Bz).mono H.base⟩
 ·skip
  replace h0:¬ er=0:=h0
  refine ⟨_,rfl,?_⟩
  replace H:AY w.heap.size w2 (List.map Th.ent [⟨w.heap.size,0,[.string ⟨⟨p0a⟩⟩,.slice p0bA ds.length p0bc],38,true⟩]++[]):=H.below b2
  replace B:=B.trans (b2.mono B.size)
  refine Bi 60 (AF Ua) w2.heap.size [⟨w.heap.size,0,[.string ⟨⟨p0a⟩⟩,.slice p0bA ds.length p0bc],38,true⟩] [(1,0)] UZ [(6,.pointer (some ⟨w2.heap.size,0,none⟩)),(7,.int .i64 er),(15,.bool (!((er:Int) == 0)))] (w2.heap.size + 1) [⟨w.heap.size,0,[.string ⟨⟨p0a⟩⟩,.slice p0bA ds.length p0bc],38,true⟩,⟨w2.heap.size,0,[.slice none 0 0,.map none],108,true⟩] (H.lies (M:=[⟨w.heap.size,0,[.string ⟨⟨p0a⟩⟩,.slice p0bA ds.length p0bc],38,true⟩])) fun w3 E3 hL3 hK3=>?_
  replace B:=B.trans (H.keptB (M:=[⟨w.heap.size,0,[.string ⟨⟨p0a⟩⟩,.slice p0bA ds.length p0bc],38,true⟩]) hK3)
  replace H:AY w.heap.size w3 (List.map Th.ent [⟨w.heap.size,0,[.string ⟨⟨p0a⟩⟩,.slice p0bA ds.length p0bc],38,true⟩,⟨w2.heap.size,0,[.slice none 0 0,.map none],108,true⟩]++[]):=H.run (M:=[⟨w.heap.size,0,[.string ⟨⟨p0a⟩⟩,.slice p0bA ds.length p0bc],38,true⟩]) (M':=[⟨w.heap.size,0,[.string ⟨⟨p0a⟩⟩,.slice p0bA ds.length p0bc],38,true⟩,⟨w2.heap.size,0,[.slice none 0 0,.map none],108,true⟩]) hL3 hK3 rfl
  refine DB (!((er:Int) == 0)) (fun c4=>?_) (fun c4=>?_)
  ·replace H:=H.addNil 3 1 (fun e r=>r=Eb e)
   rw [c4]
   refine D6 (fn:=Tryz.f19) 60 (.tuple #[.slice none 0 0,.int .i64 er]) fun wz Bz=>⟨none,0,rfl,B.trans (Bz.mono B.size),(H.below Bz).pick [2] rfl (by decide)⟩
  ·simp [h0] at c4
end
end Go.Proofs.YtmcpjkcggfmcmaaGreatDoor
namespace Go.Proofs.YtmcpjkcggfmcmaaGreatDoor
open Go.RowKit
set_option maxRecDepth 100000
set_option maxHeartbeats 1000000
abbrev Fu:=List UInt8×Bool×Int×Int×Int×List AJ×Option Addr×Nat
abbrev Do:=List UInt8×Bool×Int×Int×Int×List AJ
abbrev Jb (x:Fu):List Value:=[.string ⟨⟨x.1⟩⟩,.bool x.2.1,.int .i64 x.2.2.1,.int .i64 x.2.2.2.1,.int .i64 x.2.2.2.2.1,.slice x.2.2.2.2.2.2.1 x.2.2.2.2.2.1.length x.2.2.2.2.2.2.2]
abbrev Hv (x:Fu):Th:=CM x.2.2.2.2.2.2.1 x.2.2.2.2.2.2.2 x.2.2.2.2.2.1
abbrev R3 (x:Fu):Do:=(x.1,x.2.1,x.2.2.1,x.2.2.2.1,x.2.2.2.2.1,x.2.2.2.2.2.1)
abbrev Fv (A:Option Addr) (c:Nat) (xs:List Fu):Th:=Th.row 49 6 (fun e r=>r=Jb e) A c xs
abbrev Ef (xs:List Fu):Th:=Th.all (xs.map Hv)
theorem AY.box {α:Type} {b:Nat} {w:World} {g n c:Nat} {cs:List Value} {T T2:TypeId} {rel:α→List Value→Prop} {A:Option Addr} {l:List α} (h1:AY b w [Th.ent ⟨g,0,cs,T,true⟩]) (h2:AY b w [Th.row T2 n rel A c l]) (hne:T≠T2):AY b w [Th.ent ⟨g,0,cs,T,true⟩,Th.row T2 n rel A c l]:=by
 have hg:BM.good w ⟨g,0,cs,T,true⟩:=h1.all 0 _ rfl
 obtain ⟨rs,hr,ho⟩:(Th.row T2 n rel A c l).P w:=h2.all 0 _ rfl
 have hx:A≠some ⟨g,0,none⟩:=fun hA=>by
  rcases ho.2 with ⟨h3,_⟩ | ⟨g',cap,cur,h3,hb,hh⟩
  ·injection h3 with e1
   rw [hA] at e1
   cases e1
  ·injection h3 with e1
   rw [hA] at e1
   injection e1 with e1
   injection e1 with e1
   subst e1
   have h4:=hg.2
   rw [if_pos rfl] at h4
   have h5:=hh.1
   rw [h4.1] at h5
   injection h5 with h5
   injection h5 with _ h6 _
   exact hne h6
 refine ⟨h1.base,fun i t ht=>?_,fun i t ht=>?_,fun i j s t hs ht hij k hk hk2=>?_⟩
 ·match i,ht with
  | 0,ht=>obtain rfl:=Option.some.inj ht; exact h1.all 0 _ rfl
  | 1,ht=>obtain rfl:=Option.some.inj ht; exact h2.all 0 _ rfl
  | i + 2,ht=>simp at ht
 ·match i,ht with
  | 0,ht=>obtain rfl:=Option.some.inj ht; exact h1.lo 0 _ rfl
  | 1,ht=>obtain rfl:=Option.some.inj ht; exact h2.lo 0 _ rfl
  | i + 2,ht=>simp at ht
 ·match i,j,hs,ht with
  | 0,0,_,_=>exact hij rfl
  | 1,1,_,_=>exact hij rfl
  | 0,1,hs,ht=>
   obtain rfl:=Option.some.inj hs
   obtain rfl:=Option.some.inj ht
   obtain rfl:k=g:=hk
   exact hx hk2
  | 1,0,hs,ht=>
   obtain rfl:=Option.some.inj hs
   obtain rfl:=Option.some.inj ht
   obtain rfl:k=g:=hk2
   exact hx hk
  | i + 2,_,hs,_=>simp at hs
  | _,j + 2,_,ht=>simp at ht
theorem GW {ds:List Df} {p1:Int}:∀ (es:List Nat) (a0:Int) (a1:List Nat) (a2:List (Nat×List Nat)),(∀ i∈a1,BU (ds.getD i default)=true)→∀ i∈(Br ds p1 es a0 a1 a2).1,BU (ds.getD i default)=true
 | [],a0,a1,a2,h=>by rw [Br]; exact h
 | e :: es,a0,a1,a2,h=>by
  rw [Br]
  cases hc:BU (ds.getD e default)
  ·exact GW es a0 a1 a2 h
  ·simp only [Bool.not_true,cond_false]
   cases !((Cw ds (Aw ds p1) e).2 == 0)
   ·exact GW es a0 (a1++[e]) _ (fun i hi=>by
     rcases List.mem_append.1 hi with hi | hi
     ·exact h i hi
     ·rw [List.mem_singleton.1 hi]; exact hc)
   ·exact fun i hi=>(by cases hi)
theorem Qe {n:List UInt8} {ds:List Df} {p1:Int}:∀ i∈(BN n ds p1).1,BU (ds.getD i default)=true:=by
 unfold BN
 cases !(Dt n ds p1 == 0)
 ·exact GW _ _ _ _ (fun i hi=>by cases hi)
 ·exact fun i hi=>(by cases hi)
theorem Yo {n:List UInt8} {ds:List Df} {p1:Int}:∀ i∈(Ap n ds p1).1,BU (ds.getD i default)=true:=by
 unfold Ap
 cases !((BN n ds p1).2.2 == 0)
 ·exact fun i hi=>Qe i ((J1 (nodes:=(BN n ds p1).1) (ns:=(BN n ds p1).2.1) ((BN n ds p1).1.length + 1) [] [] (fun j hj=>(by cases hj)) (Nat.zero_le _)).1 i hi)
 ·exact fun i hi=>(by cases hi)
theorem Jp:∀ {ds:List Df},Dn ds=true→∀ d∈ds,FB d=true
 | [],_,d,hd=>by cases hd
 | e :: ds,h,d,hd=>by
  rw [Dn] at h
  cases h1:!(Tk.isName e.name)
  ·rw [h1] at h
   cases h2:FB e
   ·rw [h2] at h; cases h
   ·rw [h2] at h
    rcases List.mem_cons.1 hd with rfl | hd
    ·exact h2
    ·exact Jp h d hd
  ·rw [h1] at h; cases h
theorem Sg {n:List UInt8} {ds:List Df} (h:EO n ds=true):∀ d∈ds,FB d=true:=by
 unfold EO at h
 revert h
 cases cond (!(Tk.isName n)) true (decide (128 < (ds.length:Int))) <;> intro h
 ·exact Jp h
 ·cases h
theorem EP {a b:Bool} (h:cond a b false=true):a=true∧b=true:=by
 cases a
 ·cases h
 ·exact ⟨rfl,h⟩
theorem OU {d:Df} (h:FB d=true) (hc:BU d=true):EY d.body 32=true:=by
 unfold FB at h
 generalize d.body=x at h ⊢
 cases x with
 | mk op num den mu hu du nm cnt md kids=>
  simp only [] at h
  unfold C2 at h
  unfold BU at hc
  have hk:d.kind=3∨d.kind=4:=by
   cases h3:(d.kind == 3)
   ·rw [h3] at hc; exact .inr (eq_of_beq hc)
   ·exact .inl (eq_of_beq h3)
  rcases hk with hk | hk
  ·rw [hk] at h
   have h:=(EP (show cond _ _ false=true from h)).1
   have h:=(EP h).1
   exact (EP h).2
  ·rw [hk] at h
   have h:=(EP (show cond _ _ false=true from h)).1
   have h:=(EP h).1
   exact (EP h).2
theorem VR {n:List UInt8} {ds:List Df} {p1:Int} (hv:(!(EO n ds))=false) (hlim:∀ d∈ds,DT d.body) (hn:∀ d∈ds,nE d.body≤1000000) {i:Nat} (hi:i∈(Ap n ds p1).1):Cg (ds.getD i default).body.height (ds.getD i default).body:=by
 have hm:=Ds ((EN (n:=n) (p1:=p1) hn).1 i hi)
 have hv':EO n ds=true:=by cases h:EO n ds with
  | true=>rfl
  | false=>rw [h] at hv; cases hv
 exact ⟨Nat.le_refl _,⟨32,OU (Sg hv' _ hm) (Yo i hi)⟩,hlim _ hm⟩
theorem EU {ds:List Df}:∀ (es:List Nat) (a:List (List UInt8)) (b:List (List (Int×Int×Int))) (c:List (List UInt8)) (d e f:List (List UInt8×Int)),(Bn ds es a b c d e f).2.2.2.2.2.2=[]
 | [],_,_,_,_,_,_=>by rw [Bn]
 | x :: es,a,b,c,d,e,f=>by
  rw [Bn]
  cases (ds.getD x default).kind == 1
  ·cases (ds.getD x default).kind == 2
   ·cases (ds.getD x default).kind == 5
    ·exact EU es _ _ _ _ _ _
    ·exact EU es _ _ _ _ _ _
   ·exact EU es _ _ _ _ _ _
  ·exact EU es _ _ _ _ _ _
theorem ON {n:List UInt8} {ds:List Df} {p1:Int}:(AA n ds p1).2.2.2.2.2.2.length=0:=by
 unfold AA
 rw [EU]
 rfl
end Go.Proofs.YtmcpjkcggfmcmaaGreatDoor
namespace Go.Proofs.YtmcpjkcggfmcmaaGreatDoor
open Go.RowKit
set_option maxRecDepth 100000
def I1 (T:TypeId) (cs:List (List Value)) (g i:Nat) (u:World):Prop:=∃ (j:Nat) (c:List Value),i≤j∧cs[j]?=some c∧BM.good u ⟨g,0,c,T,true⟩
structure Ec (T:TypeId) (cs:List (List Value)) (g:Nat) (w u:World):Prop where
 but:Ca g w u
 up:∀ i,I1 T cs g i w→I1 T cs g i u
theorem Ec.refl {T:TypeId} {cs:List (List Value)} {g:Nat} (w:World):Ec T cs g w w:=⟨Ca.refl _ _,fun _ h=>h⟩
theorem Ec.trans {T:TypeId} {cs:List (List Value)} {g:Nat} (a b c:World) (h:Ec T cs g a b) (k:Ec T cs g b c):Ec T cs g a c:=⟨h.but.trans k.but,fun i x=>k.up i (h.up i x)⟩
def KS (T:TypeId) (cs:List (List Value)) (g:Nat) (w u:World):Prop:=Ca g w u∧I1 T cs g 0 u
theorem KS.start {T:TypeId} {cs:List (List Value)} {g:Nat} {c:List Value} {w:World} (h:BM.good w ⟨g,0,c,T,true⟩) (hc:cs[0]?=some c):KS T cs g w w.drew:=
 ⟨.of_below (Below.refl _ _).drew,0,c,Nat.le_refl _,hc,NS h (Nat.le_refl _) rfl⟩
theorem Qs {g:Nat} {w u:World} {e:BM} (h:e.good w) (b:Ca g w u) (hne:e.id≠g):e.good u:=NS h b.size (b.block _ h.1 hne)
theorem XG {g k o:Nat} {w u:World} {cs:List Value} (h:w.rangeAt k o cs) (hk:k < w.heap.size) (b:Ca g w u) (hne:k≠g):u.rangeAt k o cs:=fun j v hv=>(World.cell?_of_block (b.block _ hk hne)).trans (h j v hv)
theorem XW {g:Nat} {u:World} {c c':List Value} {T:TypeId} (h:BM.good u ⟨g,0,c,T,true⟩) (k:BM.good u ⟨g,0,c',T,true⟩):c=c':=by
 have h1:=h.2
 have k1:=k.2
 rw [if_pos rfl] at h1 k1
 have:=h1.1.symm.trans k1.1
 injection this with this
 injection this with this
 exact congrArg Array.toList this
def FD (off:Nat) (vs:List Value) (c:List Value):List Value:=c.take off++vs++c.drop (off + vs.length)
theorem DZ {T:TypeId} {cs:List (List Value)} {g i:Nat} {u u2:World} (f:List Value→List Value) (hf:∀ j c,i≤j + 1→cs[j]?=some c→cs[max i j]?=some (f c)) {j:Nat} {c c2:List Value} (hj:i≤j + 1) (hc:cs[j]?=some c) (hg:BM.good u ⟨g,0,c,T,true⟩)
  (b:Ca g u u2) (hn:BM.good u2 ⟨g,0,c2,T,true⟩) (h2:c2=f c):Ec T cs g u u2∧I1 T cs g i u2:=by
 subst h2
 refine ⟨⟨b,fun i' ⟨j',c',h1,h2,h3⟩=>?_⟩,max i j,f c,Nat.le_max_left _ _,hf j c hj hc,hn⟩
 obtain rfl:=XW hg h3
 by_cases hx:i≤j' + 1
 ·exact ⟨max i j',f c,by omega,hf j' c hx h2,hn⟩
 ·exact ⟨max i j,f c,by omega,hf j c hj hc,hn⟩
theorem AN.storeH {P:Program} {o:Oper} {ρ:Operand→Value} {w:World} {K:Value→World→Prop} (e e':BM) (hint:Nat×Nat) (hg:e.good w) (hk:∀ w',e'.good w'→Ca e.id w w'→K undef w') (he:(CB P (execOp ρ o) ⟨w.heap.size,[e],hint,[]⟩).map (fun p=>(GT p.1,p.2.mem,p.2.sz,p.2.eqs.map Prod.fst))=(CB P (execOp ρ o) ⟨w.heap.size,[e],hint,[]⟩).map (fun p=>(some undef,[e'],w.heap.size,p.2.eqs.map Prod.snd)):=by kernel_rfl) (hs:(CB P (execOp ρ o) ⟨w.heap.size,[e],hint,[]⟩).isSome=true:=by kernel_rfl):AN P o ρ w K:=by
 have hL:=Iq w [e] (fun x hx=>by rw [List.mem_singleton.1 hx]; exact hg) (by simp)
 cases hm:CB P (execOp ρ o) ⟨w.heap.size,[e],hint,[]⟩ with
 | none=>rw [hm] at hs; cases hs
 | some p=>
  obtain ⟨r,ms'⟩:=p
  rw [hm] at he
  simp only [Option.map_some,Option.some.injEq,Prod.mk.injEq] at he
  obtain ⟨h1,h2,h3,h4⟩:=he
  refine AN.runsK ⟨w.heap.size,[e],hint,[]⟩ ms' r undef (hm:=hm) ?_ ⟨hL.sat,hL.le,hL.own⟩ h4 fun w' hL' hK=>hk w' ?_ ⟨hK.os,hK.tape,hK.output,hK.size,fun k hk hne=>hK.block k hk (by simpa using hne)⟩
  ·cases r <;> simp [GT] at h1
   ·exact .inl (by rw [h1])
   ·exact .inr ⟨rfl,rfl⟩
  ·exact hL'.sat.good e' (by rw [h2]; simp)
theorem AY.staged {T:TypeId} {cs:List (List Value)} {b g:Nat} {w u:World} {L:List Th} {c c2:List Value} (h:AY b w L) (i:Nat) (hi:L[i]?=some (Th.ent ⟨g,0,c,T,true⟩)) (hb:Ca g w u) (hS:I1 T cs g (cs.length - 1) u) (hc:cs[cs.length - 1]?=some c2):AY b u (L.set i (Th.ent ⟨g,0,c2,T,true⟩)):=by
 obtain ⟨j,c',h1,h2,h3⟩:=hS
 have hl:=(List.getElem?_eq_some_iff.1 h2).1
 obtain rfl:j=cs.length - 1:=by omega
 obtain rfl:=Option.some.inj (hc.symm.trans h2)
 exact h.set i hi hb.size h3 (fun k hk=>⟨by rw [show k=g from hk]; exact h3.1,.inl hk⟩) fun k hk hne=>hb.block k hk hne
end Go.Proofs.YtmcpjkcggfmcmaaGreatDoor
namespace Go.Proofs.YtmcpjkcggfmcmaaGreatDoor
noncomputable def Jv:Nat→List Value→List Value
 | 0,_=>[]
 | n + 1,z=>z++Jv n z
theorem R5 (z:List Value):∀ n,(Jv n z).length=n * z.length
 | 0=>by simp [Jv]
 | n + 1=>by rw [Jv,List.length_append,R5 z n,Nat.succ_mul,Nat.add_comm]
theorem R6 (z:List Value):∀ (n j:Nat),j < n * z.length→(Jv n z)[j]?=z[j % z.length]?
 | 0,j,h=>by simp at h
 | n + 1,j,h=>by
  rw [Jv,List.getElem?_append]
  split
  ·rename_i hj
   rw [Nat.mod_eq_of_lt hj]
  ·rename_i hj
   have hz:z.length≤j:=by omega
   rw [R6 z n (j - z.length) (by rw [Nat.succ_mul] at h; omega),Nat.mod_eq_sub_mod hz]
theorem OQ (z:List Value) (n:Nat):(madeCells z.toArray (n * z.length)).toList=Jv n z:=by
 apply List.ext_getElem?
 intro j
 by_cases hj:j < n * z.length
 ·rw [R6 z n j hj]
  have hz:0 < z.length:=Nat.pos_of_ne_zero fun e=>by rw [e] at hj; simp at hj
  have hm:j % z.length < z.length:=Nat.mod_lt _ hz
  rw [List.getElem?_eq_getElem hm]
  simp [madeCells,hj,hm]
 ·rw [List.getElem?_eq_none (by rw [Array.length_toList,size_madeCells]; omega),List.getElem?_eq_none (by rw [R5]; omega)]
end Go.Proofs.YtmcpjkcggfmcmaaGreatDoor

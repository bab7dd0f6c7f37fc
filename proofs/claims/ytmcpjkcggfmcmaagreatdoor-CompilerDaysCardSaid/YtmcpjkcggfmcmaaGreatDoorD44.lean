/-
  Part 44 of a proof: contracts of functions.
-/
import Derived.Test.YtmcpjkcggfmcmaaGreatDoorD12
import Derived.Test.YtmcpjkcggfmcmaaGreatDoorD40
import Derived.Test.YtmcpjkcggfmcmaaGreatDoorD43
set_option linter.all false
namespace Go.Proofs.YtmcpjkcggfmcmaaGreatDoor
open Go.RowKit
def F4 (H:Nat) (d:Df):Prop:=
 1≤d.kind∧d.kind≤5∧d.name.length≤5∧-1≤d.tm∧d.tm≤1∧-1≤d.th∧d.th≤1∧-1≤d.td∧d.td≤1∧0≤d.frm∧d.frm≤30000∧(∀ e∈d.ents,Y7 e)∧d.ents.length≤3∧
  (d.body=LO∨Dr H d.body)∧((d.kind=3∨d.kind=4)→Dr H d.body)∧0≤d.mode∧d.mode≤6∧0≤d.num∧d.num≤100∧0≤d.den∧d.den≤100
def Hl:Value:=.string ⟨#[109,101,116,97,108]⟩
def BM (w:World) (r:List Value) (v:Value) (X:List BI):List BI:=⟨w.heap.size,0,r,38,true⟩ :: ⟨w.heap.size + 1,0,[Hl,v],38,true⟩ :: X
def SA (w:World) (v:Value) (X:List BI) (h:Nat):Prop:=w.heap.size + 2≤h∧v.ownBlock≠some h∧∀ e∈X,e.id≠h
structure Ag (b:Nat) (ns:List Int) (H:Nat) (w:World) (r:List Value) (c v:Value) (X:List BI) (rs:List (List Value)) (wx:World):Prop where
 ph:Ph b ns w (BM w r c X) wx
 own:wx.ownsRow (w.heap.size + 2) 34 21 v rs.length rs.flatten
 ok:Fn (F4 H) (SA w v X) wx rs
 new:∀ e∈X,w.heap.size + 2≤e.id
 off:∀ e∈X,v.ownBlock≠some e.id
def Bk:List Value:=[.string ⟨#[]⟩,.slice none 0 0]
section
variable {b:Nat} {ns:List Int} {H:Nat} {w:World} {r:List Value} {c c' v:Value} {X:List BI} {rs:List (List Value)} {wx wy:World}
theorem QY (h:∀ e∈X,w.heap.size + 2≤e.id):∀ e∈BM w r c X,w.heap.size≤e.id:=by
 intro e he
 unfold BM at he
 rcases List.mem_cons.1 he with rfl | he
 ·exact Nat.le_refl _
 ·rcases List.mem_cons.1 he with rfl | he
  ·simp
  ·have:=h e he; omega
theorem Y8 {g:Nat} (a:w.heap.size + 2≤g) (h2:∀ e∈X,e.id≠g):g∉(BM w r c X).map (·.id):=by
 intro hm
 obtain ⟨e,he,hg⟩:=List.mem_map.1 hm
 unfold BM at he
 rcases List.mem_cons.1 he with rfl | he
 ·simp only at hg; omega
 ·rcases List.mem_cons.1 he with rfl | he
  ·simp only at hg; omega
  ·exact h2 e he hg
theorem Ag.run {o:List Value} {l:List BI} {z:Nat} {O:List Nat} {B:Nat} {x:Nat×Nat} {q:List (Nat×Nat)} (h:Ag b ns H w r c v X rs wx) (k:EC ((BM w r c X).map (·.id)) wx.heap.size wx wy) (s:DH O B wy ⟨z,BM w o c' l,x,q⟩)
  (n:∀ e∈l,(∃ e'∈X,e'.id=e.id)∨wx.heap.size≤e.id):Ag b ns H w o c' v l rs wy:=by
 have hz:=h.ph.but.size
 have p:w.heap.size + 2≤wx.heap.size:=by
  have:=(h.ph.lies.sat.good ⟨w.heap.size + 1,0,[Hl,c],38,true⟩ (by simp [BM])).1
  simp only at this
  omega
 have d:∀ e∈l,w.heap.size + 2≤e.id:=fun e he=>by
  rcases n e he with ⟨e',f,h2⟩ | f
  ·rw [← h2]; exact h.new e' f
  ·omega
 have hg:∀ g,v.ownBlock=some g→w.heap.size + 2≤g∧g < wx.heap.size:=fun g hg=>h.own.lt g hg
 refine ⟨h.ph.run k s (QY d),GY h.own (fun g i=>k.block g (hg g i).2 (Y8 (hg g i).1 (fun e he a=>h.off e he (by rw [a]; exact i)))),h.ok.keep k.size (fun g j m=>⟨⟨j.1,j.2.1,fun e he a=>?_⟩,k.block g m (Y8 j.1 j.2.2)⟩),d,fun e he a=>?_⟩
 ·rcases n e he with ⟨e',f,h2⟩ | f
  ·exact j.2.2 e' f (h2.trans a)
  ·omega
 ·rcases n e he with ⟨e',f,h2⟩ | f
  ·exact h.off e' f (by rw [h2]; exact a)
  ·have:=(hg _ a).2; omega
theorem Ag.call (h:Ag b ns H w r c v X rs wx) (e:Bl b ns wy) (hb:Ae b wx wy):Ag b ns H w r c v X rs wy:=by
 have d:=h.ph.lt
 refine ⟨h.ph.call e hb,GY h.own (fun g hg=>?_),h.ok.keep hb.size (fun g a hl=>⟨a,hb.block g hl (by have:=a.1; omega)⟩),h.new,h.off⟩
 have:=h.own.lt g hg
 exact hb.block g this.2 (by omega)
theorem Ag.below (h:Ag b ns H w r c v X rs wx) (hb:Below wx.heap.size wx wy):Ag b ns H w r c v X rs wy:=h.call (h.ph.tape.below hb) (.of_below hb)
theorem Ag.fresh (h:Ag b ns H w r c v X rs wx) {g:Nat} (hg:wx.heap.size≤g):SA w v X g:=by
 have a:w.heap.size + 2≤wx.heap.size:=by
  have:=(h.ph.lies.sat.good ⟨w.heap.size + 1,0,[Hl,c],38,true⟩ (by simp [BM])).1
  simp only at this
  omega
 refine ⟨by omega,fun e=>?_,fun e he d=>?_⟩
 ·have:=(h.own.lt g e).2; omega
 ·have:=(h.ph.lies.sat.good e (by simp [BM,he])).1
  omega
theorem SA.keep {g:Nat} {u a:World} (d:b < w.heap.size) (he:Ae b u a) (c:SA w v X g) (hl:g < u.heap.size):SA w v X g∧a.heap[g]?=u.heap[g]?:=⟨c,he.block g hl (by have:=c.1; omega)⟩
theorem Ag.append {l:Value} {j:List (List Value)} (h:Ag b ns H w r c v X rs wx) (m:Fn (F4 H) (SA w v X) wx j) (ho:wy.ownsRow (w.heap.size + 2) 34 21 l (rs.length + j.length) (rs.flatten++j.flatten)) (hg:wx.grownBy wy v.ownBlock) (f:∀ g,l.ownBlock=some g→v.ownBlock=some g∨wx.heap.size≤g) :
  Ag b ns H w r c l X (rs++j) wy:=by
 refine ⟨h.ph.grown hg (fun g i=>?_),by rw [List.length_append,List.flatten_append]; exact ho,?_,h.new,fun e he a=>?_⟩
 ·have d:=h.own.lt g i
  refine ⟨by omega,fun e he a=>?_⟩
  have:=Y8 (w:=w) (r:=r) (c:=c) (X:=X) d.1 (fun e he a=>h.off e he (by rw [a]; exact i))
  exact this (List.mem_map.2 ⟨e,he,a⟩)
 ·refine (h.ok.append m).keep hg.size (fun g k hl=>⟨⟨k.1,fun e=>?_,k.2.2⟩,hg.block g hl (fun e=>k.2.1 e.symm)⟩)
  rcases f g e with d | d
  ·exact k.2.1 d
  ·omega
 ·rcases f _ a with d | d
  ·exact h.off e he d
  ·have:=(h.ph.lies.sat.good e (by simp [BM,he])).1
   omega
end
end Go.Proofs.YtmcpjkcggfmcmaaGreatDoor

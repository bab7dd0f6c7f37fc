/-
  Part 36 of a proof: contracts of functions.
-/
import Derived.Test.YtmcpjkcggfmcmaaGreatDoorD35
set_option linter.all false
namespace Go.Proofs.YtmcpjkcggfmcmaaGreatDoor
open Go.RowKit
set_option maxRecDepth 100000
set_option maxHeartbeats 1000000
abbrev RR:=List UInt8×Bool×Int×Int×Int×List AK×Option Addr×Nat
abbrev DL:=List UInt8×Bool×Int×Int×Int×List AK
abbrev Qx (x:RR):List Value:=[.string ⟨⟨x.1⟩⟩,.bool x.2.1,D x.2.2.1,D x.2.2.2.1,D x.2.2.2.2.1,.slice x.2.2.2.2.2.2.1 x.2.2.2.2.2.1.length x.2.2.2.2.2.2.2]
abbrev MZ (x:RR):Th:=Cj x.2.2.2.2.2.2.1 x.2.2.2.2.2.2.2 x.2.2.2.2.2.1
abbrev lm (x:RR):DL:=(x.1,x.2.1,x.2.2.1,x.2.2.2.1,x.2.2.2.2.1,x.2.2.2.2.2.1)
abbrev Hw (A:Option Addr) (c:Nat) (xs:List RR):Th:=Th.row 49 6 (fun e r=>r=Qx e) A c xs
abbrev F0 (xs:List RR):Th:=Th.all (xs.map MZ)
theorem AU.box {α:Type} {b:Nat} {w:World} {g n c:Nat} {cs:List Value} {T m:TypeId} {a:α→List Value→Prop} {A:Option Addr} {l:List α} (h:AU b w [Th.ent ⟨g,0,cs,T,true⟩]) (h2:AU b w [Th.row m n a A c l]) (o:T≠m):AU b w [Th.ent ⟨g,0,cs,T,true⟩,Th.row m n a A c l]:=by
 have hg:BI.good w ⟨g,0,cs,T,true⟩:=h.all 0 _ rfl
 obtain ⟨rs,hr,ho⟩:(Th.row m n a A c l).P w:=h2.all 0 _ rfl
 have q:A≠some ⟨g,0,none⟩:=fun u=>by
  rcases ho.2 with ⟨p,_⟩ | ⟨z,cap,y,p,hb,x⟩
  ·injection p with e1
   rw [u] at e1
   cases e1
  ·injection p with e1
   rw [u] at e1
   injection e1 with e1
   injection e1 with e1
   subst e1
   have v:=hg.2
   rw [if_pos rfl] at v
   have f:=x.1
   rw [v.1] at f
   injection f with f
   injection f with _ h6 _
   exact o h6
 refine ⟨h.base,fun i t ht=>?_,fun i t ht=>?_,fun i j s t hs ht e k r d=>?_⟩
 ·match i,ht with
  | 0,ht=>obtain rfl:=Option.some.inj ht; exact h.all 0 _ rfl
  | 1,ht=>obtain rfl:=Option.some.inj ht; exact h2.all 0 _ rfl
  | i + 2,ht=>simp at ht
 ·match i,ht with
  | 0,ht=>obtain rfl:=Option.some.inj ht; exact h.lo 0 _ rfl
  | 1,ht=>obtain rfl:=Option.some.inj ht; exact h2.lo 0 _ rfl
  | i + 2,ht=>simp at ht
 ·match i,j,hs,ht with
  | 0,0,_,_=>exact e rfl
  | 1,1,_,_=>exact e rfl
  | 0,1,hs,ht=>
   obtain rfl:=Option.some.inj hs
   obtain rfl:=Option.some.inj ht
   obtain rfl:k=g:=r
   exact q d
  | 1,0,hs,ht=>
   obtain rfl:=Option.some.inj hs
   obtain rfl:=Option.some.inj ht
   obtain rfl:k=g:=d
   exact q r
  | i + 2,_,hs,_=>simp at hs
  | _,j + 2,_,ht=>simp at ht
theorem Ii {ds:List Df} {p1:Int}:∀ (es:List Nat) (a0:Int) (a:List Nat) (a2:List (Nat×List Nat)),(∀ i∈a,Bp (ds.getD i default)=true)→∀ i∈(Bj ds p1 es a0 a a2).1,Bp (ds.getD i default)=true
 | [],a0,a,a2,h=>by rw [Bj]; exact h
 | e :: es,a0,a,a2,h=>by
  rw [Bj]
  cases hc:Bp (ds.getD e default)
  ·exact Ii es a0 a a2 h
  ·simp only [Bool.not_true,cond_false]
   cases !((DS ds (BC ds p1) e).2 == 0)
   ·exact Ii es a0 (a++[e]) _ (fun i hi=>by
     rcases List.mem_append.1 hi with hi | hi
     ·exact h i hi
     ·rw [List.mem_singleton.1 hi]; exact hc)
   ·exact fun i hi=>(by cases hi)
theorem UE {n:List UInt8} {ds:List Df} {p1:Int}:∀ i∈(BT n ds p1).1,Bp (ds.getD i default)=true:=by
 unfold BT
 cases !(EF n ds p1 == 0)
 ·exact Ii _ _ _ _ (fun i hi=>by cases hi)
 ·exact fun i hi=>(by cases hi)
theorem eC {n:List UInt8} {ds:List Df} {p1:Int}:∀ i∈(Au n ds p1).1,Bp (ds.getD i default)=true:=by
 unfold Au
 cases !((BT n ds p1).2.2 == 0)
 ·exact fun i hi=>UE i ((Mi (nodes:=(BT n ds p1).1) (ns:=(BT n ds p1).2.1) ((BT n ds p1).1.length + 1) [] [] (fun j a=>(by cases a)) (Nat.zero_le _)).1 i hi)
 ·exact fun i hi=>(by cases hi)
theorem MQ:∀ {ds:List Df},Eh ds=true→∀ d∈ds,GZ d=true
 | [],_,d,hd=>by cases hd
 | e :: ds,h,d,hd=>by
  rw [Eh] at h
  cases h1:!(Tk.isName e.name)
  ·rw [h1] at h
   cases h2:GZ e
   ·rw [h2] at h; cases h
   ·rw [h2] at h
    rcases List.mem_cons.1 hd with rfl | hd
    ·exact h2
    ·exact MQ h d hd
  ·rw [h1] at h; cases h
theorem WF {n:List UInt8} {ds:List Df} (h:FF n ds=true):∀ d∈ds,GZ d=true:=by
 unfold FF at h
 revert h
 cases cond (!(Tk.isName n)) true (decide (128 < (ds.length:Int))) <;> intro h
 ·exact MQ h
 ·cases h
theorem Fd {a b:Bool} (h:cond a b false=true):a=true∧b=true:=by
 cases a
 ·cases h
 ·exact ⟨rfl,h⟩
theorem Rm {d:Df} (h:GZ d=true) (hc:Bp d=true):IM d.body 32=true:=by
 unfold GZ at h
 generalize d.body=x at h ⊢
 cases x with
 | mk op num den mu hu du nm cnt md kids=>
  simp only [] at h
  unfold DX at h
  unfold Bp at hc
  have a:d.kind=3∨d.kind=4:=by
   cases h3:(d.kind == 3)
   ·rw [h3] at hc; exact .inr (eq_of_beq hc)
   ·exact .inl (eq_of_beq h3)
  rcases a with a | a
  ·rw [a] at h
   have h:=(Fd (show cond _ _ false=true from h)).1
   have h:=(Fd h).1
   exact (Fd h).2
  ·rw [a] at h
   have h:=(Fd (show cond _ _ false=true from h)).1
   have h:=(Fd h).1
   exact (Fd h).2
theorem Y6 {n:List UInt8} {ds:List Df} {p1:Int} (hv:(!(FF n ds))=false) (a:∀ d∈ds,Dq d.body) (hn:∀ d∈ds,nE d.body≤1000000) {i:Nat} (hi:i∈(Au n ds p1).1):C9 (ds.getD i default).body.height (ds.getD i default).body:=by
 have hm:=Ee ((FD (n:=n) (p1:=p1) hn).1 i hi)
 have b:FF n ds=true:=by cases h:FF n ds with
  | true=>rfl
  | false=>rw [h] at hv; cases hv
 exact ⟨Nat.le_refl _,⟨32,Rm (WF b _ hm) (eC i hi)⟩,a _ hm⟩
theorem Fh {ds:List Df}:∀ (es:List Nat) (a:List (List UInt8)) (b:List (List (Int×Int×Int))) (c:List (List UInt8)) (d e f:List (List UInt8×Int)),(Be ds es a b c d e f).2.2.2.2.2.2=[]
 | [],_,_,_,_,_,_=>by rw [Be]
 | x :: es,a,b,c,d,e,f=>by
  rw [Be]
  cases (ds.getD x default).kind == 1
  ·cases (ds.getD x default).kind == 2
   ·cases (ds.getD x default).kind == 5
    ·exact Fh es _ _ _ _ _ _
    ·exact Fh es _ _ _ _ _ _
   ·exact Fh es _ _ _ _ _ _
  ·exact Fh es _ _ _ _ _ _
theorem Re {n:List UInt8} {ds:List Df} {p1:Int}:(AA n ds p1).2.2.2.2.2.2.length=0:=by
 unfold AA
 rw [Fh]
 rfl
end Go.Proofs.YtmcpjkcggfmcmaaGreatDoor
namespace Go.Proofs.YtmcpjkcggfmcmaaGreatDoor
open Go.RowKit
set_option maxRecDepth 100000
def LV (T:TypeId) (cs:List (List Value)) (g i:Nat) (u:World):Prop:=∃ (j:Nat) (c:List Value),i≤j∧cs[j]?=some c∧BI.good u ⟨g,0,c,T,true⟩
structure Ft (T:TypeId) (cs:List (List Value)) (g:Nat) (w u:World):Prop where
 but:Ae g w u
 up:∀ i,LV T cs g i w→LV T cs g i u
theorem Ft.refl {T:TypeId} {cs:List (List Value)} {g:Nat} (w:World):Ft T cs g w w:=⟨Ae.refl _ _,fun _ h=>h⟩
theorem Ft.trans {T:TypeId} {cs:List (List Value)} {g:Nat} (a b c:World) (h:Ft T cs g a b) (k:Ft T cs g b c):Ft T cs g a c:=⟨h.but.trans k.but,fun i x=>k.up i (h.up i x)⟩
def M9 (T:TypeId) (cs:List (List Value)) (g:Nat) (w u:World):Prop:=Ae g w u∧LV T cs g 0 u
theorem M9.start {T:TypeId} {cs:List (List Value)} {g:Nat} {c:List Value} {w:World} (h:BI.good w ⟨g,0,c,T,true⟩) (hc:cs[0]?=some c):M9 T cs g w w.drew:=
 ⟨.of_below (Below.refl _ _).drew,0,c,Nat.le_refl _,hc,QZ h (Nat.le_refl _) rfl⟩
theorem US {g:Nat} {w u:World} {e:BI} (h:e.good w) (b:Ae g w u) (a:e.id≠g):e.good u:=QZ h b.size (b.block _ h.1 a)
theorem bY {g k o:Nat} {w u:World} {cs:List Value} (h:w.rangeAt k o cs) (c:k < w.heap.size) (b:Ae g w u) (a:k≠g):u.rangeAt k o cs:=fun j v hv=>(World.cell?_of_block (b.block _ c a)).trans (h j v hv)
theorem cR {g:Nat} {u:World} {c d:List Value} {T:TypeId} (h:BI.good u ⟨g,0,c,T,true⟩) (k:BI.good u ⟨g,0,d,T,true⟩):c=d:=by
 have b:=h.2
 have a:=k.2
 rw [if_pos rfl] at b a
 have:=b.1.symm.trans a.1
 injection this with this
 injection this with this
 exact congrArg Array.toList this
def Gd (off:Nat) (vs:List Value) (c:List Value):List Value:=c.take off++vs++c.drop (off + vs.length)
theorem EG {T:TypeId} {cs:List (List Value)} {g i:Nat} {u a:World} (f:List Value→List Value) (hf:∀ j c,i≤j + 1→cs[j]?=some c→cs[max i j]?=some (f c)) {j:Nat} {c h:List Value} (e:i≤j + 1) (hc:cs[j]?=some c) (hg:BI.good u ⟨g,0,c,T,true⟩)
  (b:Ae g u a) (hn:BI.good a ⟨g,0,h,T,true⟩) (h2:h=f c):Ft T cs g u a∧LV T cs g i a:=by
 subst h2
 refine ⟨⟨b,fun l ⟨d,n,m,h2,k⟩=>?_⟩,max i j,f c,Nat.le_max_left _ _,hf j c e hc,hn⟩
 obtain rfl:=cR hg k
 by_cases hx:i≤d + 1
 ·exact ⟨max i d,f c,by omega,hf d c hx h2,hn⟩
 ·exact ⟨max i j,f c,by omega,hf j c e hc,hn⟩
theorem AH.storeH {P:Program} {o:Oper} {ρ:Operand→Value} {w:World} {K:Value→World→Prop} (e e':BI) (hint:Nat×Nat) (hg:e.good w) (d:∀ w',e'.good w'→Ae e.id w w'→K undef w') (he:(CS P (execOp ρ o) ⟨w.heap.size,[e],hint,[]⟩).map (fun p=>(Ie p.1,p.2.mem,p.2.sz,p.2.eqs.map Prod.fst))=(CS P (execOp ρ o) ⟨w.heap.size,[e],hint,[]⟩).map (fun p=>(some undef,[e'],w.heap.size,p.2.eqs.map Prod.snd)):=by kernel_rfl) (hs:(CS P (execOp ρ o) ⟨w.heap.size,[e],hint,[]⟩).isSome=true:=by kernel_rfl):AH P o ρ w K:=by
 have g:=LE w [e] (fun x i=>by rw [List.mem_singleton.1 i]; exact hg) (by simp)
 cases hm:CS P (execOp ρ o) ⟨w.heap.size,[e],hint,[]⟩ with
 | none=>rw [hm] at hs; cases hs
 | some p=>
  obtain ⟨r,b⟩:=p
  rw [hm] at he
  simp only [Option.map_some,Option.some.injEq,Prod.mk.injEq] at he
  obtain ⟨h,h2,l,j⟩:=he
  refine AH.runsK ⟨w.heap.size,[e],hint,[]⟩ b r undef (hm:=hm) ?_ ⟨g.sat,g.le,g.own⟩ j fun w' f a=>d w' ?_ ⟨a.os,a.tape,a.output,a.size,fun k d c=>a.block k d (by simpa using c)⟩
  ·cases r <;> simp [Ie] at h
   ·exact .inl (by rw [h])
   ·exact .inr ⟨rfl,rfl⟩
  ·exact f.sat.good e' (by rw [h2]; simp)
theorem AU.staged {T:TypeId} {cs:List (List Value)} {b g:Nat} {w u:World} {L:List Th} {c f:List Value} (h:AU b w L) (i:Nat) (hi:L[i]?=some (Th.ent ⟨g,0,c,T,true⟩)) (hb:Ae g w u) (l:LV T cs g (cs.length - 1) u) (hc:cs[cs.length - 1]?=some f):AU b u (L.set i (Th.ent ⟨g,0,f,T,true⟩)):=by
 obtain ⟨j,n,m,h2,e⟩:=l
 have hl:=(List.getElem?_eq_some_iff.1 h2).1
 obtain rfl:j=cs.length - 1:=by omega
 obtain rfl:=Option.some.inj (hc.symm.trans h2)
 exact h.set i hi hb.size e (fun k a=>⟨by rw [show k=g from a]; exact e.1,.inl a⟩) fun k a d=>hb.block k a d
end Go.Proofs.YtmcpjkcggfmcmaaGreatDoor

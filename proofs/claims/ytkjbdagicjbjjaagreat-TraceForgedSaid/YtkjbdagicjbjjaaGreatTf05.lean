/-
  Part 5 of a proof: contracts of functions.
-/
import Derived.Test.YtkjbdagicjbjjaaGreatTf04
import Derived.Laws.Append
import Derived.OwnWalk
import Derived.Maps.AppendAt
import Derived.Maps.OwnSet
set_option linter.all false
namespace Go.Proofs.YtkjbdagicjbjjaaGreat
noncomputable section
open Go.RowKit
set_option maxRecDepth 100000
structure Th where
 F:Nat→Prop
 P:World→Prop
 fr:∀ w w',P w→w.heap.size≤w'.heap.size→(∀ k,F k→k < w.heap.size→w'.heap[k]?=w.heap[k]?)→P w'
theorem F6 {w w':World} {e:Az} (hg:e.good w) (hs:w.heap.size≤w'.heap.size) (hb:w'.heap[e.id]?=w.heap[e.id]?):e.good w':=by
 refine ⟨Nat.lt_of_lt_of_le hg.1 hs,?_⟩
 have h2:=hg.2
 split at h2
 ·rename_i ho; rw [if_pos ho,hb]; exact h2
 ·rename_i ho
  rw [if_neg ho]
  exact fun j v hv=>(World.cell?_of_block hb).trans (h2 j v hv)
def Th.ent (e:Az):Th:=⟨(·=e.id),fun w=>e.good w,fun _ _ h hs hk=>F6 h hs (hk _ rfl h.1)⟩
theorem Cw {w:World} {base:Nat} {T:TypeId} {n:Nat} {A:Option Addr} {k c m:Nat} {xs:List Value} (h:w.ownsRow base T n (.slice A k c) m xs) {g:Nat} (hg:(Value.slice A k c).ownBlock=some g):A=IN g∧g < w.heap.size:=by
 rcases h.2 with ⟨a,_⟩ | ⟨d,cap,b,a,hb,hr⟩
 ·cases a; simp [Value.ownBlock] at hg
 ·cases a
  simp [Value.ownBlock] at hg
  subst hg
  exact ⟨rfl,(Array.getElem?_eq_some_iff.1 hr.1).1⟩
def EF {α:Type} (rel:α→List Value→Prop):List α→List (List Value)→Prop
 | [],[]=>True
 | a :: l,r :: rs=>rel a r∧EF rel l rs
 | _,_=>False
theorem FO {α:Type} {a:α→List Value→Prop}:∀ {l:List α} {rs:List (List Value)},EF a l rs→rs.length=l.length
 | [],[],_=>rfl
 | [],_ :: _,h=>h.elim
 | _ :: _,[],h=>h.elim
 | _ :: _,_ :: _,h=>congrArg (· + 1) (FO h.2)
theorem MZ {α:Type} {a:α→List Value→Prop} {e:α} {r:List Value} (h:a e r):∀ {l:List α} {rs:List (List Value)},EF a l rs→EF a (l++[e]) (rs++[r])
 | [],[],_=>⟨h,trivial⟩
 | [],_ :: _,h=>h.elim
 | _ :: _,[],h=>h.elim
 | _ :: _,_ :: _,k=>⟨k.1,MZ h k.2⟩
theorem Lf {α:Type} {a:α→List Value→Prop} {e:α} {r:List Value} (h:a e r):∀ {l:List α} {rs:List (List Value)} (i:Nat),EF a l rs→EF a (l.set i e) (rs.set i r)
 | [],[],_,_=>trivial
 | [],_ :: _,_,h=>h.elim
 | _ :: _,[],_,h=>h.elim
 | _ :: _,_ :: _,0,k=>⟨h,k.2⟩
 | _ :: _,_ :: _,i + 1,k=>⟨k.1,Lf h i k.2⟩
theorem Hj {α:Type} {f:α→List Value}:∀ {l:List α} {rs:List (List Value)},EF (fun e r=>r=f e) l rs→rs=l.map f
 | [],[],_=>rfl
 | [],_ :: _,h=>h.elim
 | _ :: _,[],h=>h.elim
 | _ :: _,_ :: _,h=>by rw [h.1,Hj h.2]; rfl
theorem Hx {α:Type} {a:α→List Value→Prop} {n:Nat} (hn:∀ e r,a e r→r.length=n):∀ {l:List α} {rs:List (List Value)},EF a l rs→∀ r∈rs,r.length=n
 | [],[],_,r,hr=>by cases hr
 | [],_ :: _,h,_,_=>h.elim
 | _ :: _,[],h,_,_=>h.elim
 | _ :: _,r' :: _,h,r,hr=>by
  rcases List.mem_cons.1 hr with rfl | hr
  ·exact hn _ _ h.1
  ·exact Hx hn h.2 r hr
def Th.row {α:Type} (T:TypeId) (n:Nat) (rel:α→List Value→Prop) (A:Option Addr) (c:Nat) (l:List α):Th:=
 ⟨fun k=>A=IN k,fun w=>∃ rs,EF rel l rs∧w.ownsRow 0 T n (.slice A l.length c) l.length rs.flatten,fun _ _ ⟨rs,hr,h⟩ _ hk=>⟨rs,hr,Mc h fun _ hg=>hk _ (Cw h hg).1 (Cw h hg).2⟩⟩
structure Ac (b:Nat) (w:World) (L:List Th):Prop where
 base:b≤w.heap.size
 all:∀ (i:Nat) (t:Th),L[i]?=some t→t.P w
 lo:∀ (i:Nat) (t:Th),L[i]?=some t→∀ k,t.F k→b≤k∧k < w.heap.size
 apart:∀ (i j:Nat) (s t:Th),L[i]?=some s→L[j]?=some t→i≠j→∀ k,s.F k→¬ t.F k
section
variable {b:Nat} {w w':World} {L L':List Th}
theorem Ac.nil (h:b≤w.heap.size):Ac b w []:=⟨h,fun i t h=>by simp at h,fun i t h=>by simp at h,fun i j s t h=>by simp at h⟩
theorem Ac.fr (h:Ac b w L) (hs:w.heap.size≤w'.heap.size) (a:∀ k,b≤k→k < w.heap.size→w'.heap[k]?=w.heap[k]?):Ac b w' L:=
 ⟨Nat.le_trans h.base hs,fun i t ht=>t.fr w w' (h.all i t ht) hs fun k hf hl=>a k (h.lo i t ht k hf).1 hl,fun i t ht k hf=>⟨(h.lo i t ht k hf).1,Nat.lt_of_lt_of_le (h.lo i t ht k hf).2 hs⟩,h.apart⟩
theorem Ac.below (h:Ac b w L) (B:Below w.heap.size w w'):Ac b w' L:=h.fr B.size fun k _ a=>B.block k a
theorem Ac.goods {M:List Az} (h:Ac b w (M.map Th.ent++L)):∀ e∈M,e.good w:=fun e he=>by
 obtain ⟨i,hi⟩:=List.mem_iff_getElem?.1 he
 have hl:i < M.length:=(List.getElem?_eq_some_iff.1 hi).1
 exact h.all i (Th.ent e) (by rw [List.getElem?_append_left (by simpa using hl),List.getElem?_map,hi]; rfl)
theorem Ac.ids {M:List Az} (h:Ac b w (M.map Th.ent++L)):∀ k∈M.map (·.id),b≤k∧k < w.heap.size:=fun k a=>by
 obtain ⟨e,he,rfl⟩:=List.mem_map.1 a
 obtain ⟨i,hi⟩:=List.mem_iff_getElem?.1 he
 have hl:i < M.length:=(List.getElem?_eq_some_iff.1 hi).1
 exact h.lo i (Th.ent e) (by rw [List.getElem?_append_left (by simpa using hl),List.getElem?_map,hi]; rfl) _ rfl
theorem Ac.nodup {M:List Az} (h:Ac b w (M.map Th.ent++L)):(M.map (·.id)).Nodup:=by
 rw [List.nodup_iff_pairwise_ne,List.pairwise_iff_getElem]
 intro i j hi a c
 rw [List.length_map] at hi a
 have f:M[i]?=some M[i]:=List.getElem?_eq_getElem hi
 have d:M[j]?=some M[j]:=List.getElem?_eq_getElem a
 have:=h.apart i j (Th.ent M[i]) (Th.ent M[j]) (by rw [List.getElem?_append_left (by simpa using hi),List.getElem?_map,f]; rfl) (by rw [List.getElem?_append_left (by simpa using a),List.getElem?_map,d]; rfl) (by omega) M[i].id rfl
 rw [List.getElem_map,List.getElem_map]
 exact fun e=>this e
theorem Ac.lies {M:List Az} (h:Ac b w (M.map Th.ent++L)):EB (M.map (·.id)) w.heap.size w ⟨w.heap.size,M,(0,0),[]⟩:=NO w M h.goods h.nodup
theorem Ac.keptB {M:List Az} (h:Ac b w (M.map Th.ent++L)) (c:Eh (M.map (·.id)) w.heap.size w w'):Below b w w':=c.below h.base fun k a=>(h.ids k a).1
theorem D8 {α:Type} {l r:List α} {i:Nat} {x:α} (h:(l++r)[i]?=some x):l[i]?=some x∨(l.length≤i∧r[i - l.length]?=some x):=by
 by_cases hl:i < l.length
 ·exact .inl (by rwa [List.getElem?_append_left hl] at h)
 ·exact .inr ⟨by omega,by rwa [List.getElem?_append_right (by omega)] at h⟩
theorem tZ {α:Type} {l r:List α} {i:Nat} {x:α} (h:l.length≤i) (hr:r[i - l.length]?=some x):(l++r)[i]?=some x:=by rw [List.getElem?_append_right h]; exact hr
theorem Ie {α β:Type} {f:α→β} {l:List α} {i:Nat} {y:β} (h:(l.map f)[i]?=some y):∃ x,l[i]?=some x∧f x=y:=by rw [List.getElem?_map] at h; exact Option.map_eq_some_iff.1 h
theorem Ac.run {M M':List Az} {z:Nat} {x:Nat×Nat} {q:List (Nat×Nat)} (h:Ac b w (M.map Th.ent++L)) (r:EB (M.map (·.id)) w.heap.size w' ⟨z,M',x,q⟩) (m:Eh (M.map (·.id)) w.heap.size w w') (ho:M'.all (·.own)=true):Ac b w' (M'.map Th.ent++L):=by
 have hid:∀ e∈M',e.id∈M.map (·.id)∨w.heap.size≤e.id:=fun e he=>r.own e he (List.all_eq_true.1 ho e he)
 have l:∀ e∈M',e.good w':=r.sat.good
 have f:∀ (j:Nat) (t:Th),L[j]?=some t→(M.map Th.ent++L)[M.length + j]?=some t:=fun j t ht=>tZ (by simp) (by simpa using ht)
 have p:∀ k∈M.map (·.id),∃ (i:Nat) (e:Az),M[i]?=some e∧e.id=k:=fun k g=>by
  obtain ⟨e,he,rfl⟩:=List.mem_map.1 g
  obtain ⟨i,hi⟩:=List.mem_iff_getElem?.1 he
  exact ⟨i,e,hi,rfl⟩
 have v:∀ (i:Nat) (e:Az),M[i]?=some e→(M.map Th.ent++L)[i]?=some (Th.ent e):=fun i e hi=>by
  have hl:i < M.length:=(List.getElem?_eq_some_iff.1 hi).1
  rw [List.getElem?_append_left (by simpa using hl),List.getElem?_map,hi]
  rfl
 have c:∀ (j:Nat) (t:Th),L[j]?=some t→∀ k,t.F k→k∉M.map (·.id):=fun j t ht k hf hm=>by
  obtain ⟨i,e,hi,rfl⟩:=p k hm
  have hl:i < M.length:=(List.getElem?_eq_some_iff.1 hi).1
  exact h.apart i (M.length + j) (Th.ent e) t (v i e hi) (f j t ht) (by omega) e.id rfl hf
 have n:∀ (j:Nat) (t:Th),L[j]?=some t→∀ k,t.F k→k < w.heap.size→w'.heap[k]?=w.heap[k]?:=fun j t ht k hf hl=>m.block k hl (c j t ht k hf)
 have a:∀ (i j:Nat) (e:Az) (t:Th),M'[i]?=some e→L[j]?=some t→¬ t.F e.id:=fun i j e t he ht hf=>by
  rcases hid e (List.mem_of_getElem? he) with hm | hm
  ·exact c j t ht _ hf hm
  ·have:=(h.lo _ t (f j t ht) _ hf).2
   omega
 refine ⟨Nat.le_trans h.base m.size,fun i t ht=>?_,fun i t ht k hf=>?_,fun i j s t hs ht o k hf=>?_⟩
 ·rcases D8 ht with ht | ⟨_,ht⟩
  ·obtain ⟨e,he,rfl⟩:=Ie ht
   exact l e (List.mem_of_getElem? he)
  ·exact t.fr w w' (h.all _ t (f _ t ht)) m.size (n _ t ht)
 ·rcases D8 ht with ht | ⟨_,ht⟩
  ·obtain ⟨e,he,rfl⟩:=Ie ht
   obtain rfl:k=e.id:=hf
   refine ⟨?_,(l e (List.mem_of_getElem? he)).1⟩
   rcases hid e (List.mem_of_getElem? he) with hm | hm
   ·exact (h.ids _ hm).1
   ·exact Nat.le_trans h.base hm
  ·have:=h.lo _ t (f _ t ht) k hf
   exact ⟨this.1,Nat.lt_of_lt_of_le this.2 m.size⟩
 ·rcases D8 hs with hs | ⟨hi,hs⟩
  ·obtain ⟨e,he,rfl⟩:=Ie hs
   obtain rfl:k=e.id:=hf
   rcases D8 ht with ht | ⟨_,ht⟩
   ·obtain ⟨e',d,rfl⟩:=Ie ht
    exact fun g:e.id=e'.id=>r.sat.apart i j e e' he d (List.all_eq_true.1 ho e (List.mem_of_getElem? he)) o g
   ·exact a i _ e t he ht
  ·rcases D8 ht with ht | ⟨u,ht⟩
   ·obtain ⟨e',d,rfl⟩:=Ie ht
    exact fun g:k=e'.id=>a j _ e' s d hs (g ▸ hf)
   ·simp only [List.length_map] at hi u hs ht
    exact h.apart _ _ s t (f _ s hs) (f _ t ht) (by omega) k hf
theorem Ac.pick (h:Ac b w L) (a:List Nat) (e:a.map (L[·]?)=L'.map some) (hn:a.Nodup):Ac b w L':=by
 have hg:∀ (j:Nat) (t:Th),L'[j]?=some t→∃ i,a[j]?=some i∧L[i]?=some t:=fun j t ht=>by
  have l:(L'.map some)[j]?=some (some t):=by rw [List.getElem?_map,ht]; rfl
  rw [← e,List.getElem?_map] at l
  exact Option.map_eq_some_iff.1 l
 refine ⟨h.base,fun j t ht=>?_,fun j t ht=>?_,fun i j s t hs ht g=>?_⟩
 ·obtain ⟨i,_,hi⟩:=hg j t ht; exact h.all i t hi
 ·obtain ⟨i,_,hi⟩:=hg j t ht; exact h.lo i t hi
 ·obtain ⟨p,k,f⟩:=hg i s hs
  obtain ⟨q,m,c⟩:=hg j t ht
  refine h.apart p q s t f c fun d=>g ?_
  subst d
  have hl:i < a.length:=(List.getElem?_eq_some_iff.1 k).1
  exact (List.getElem?_inj hl hn).1 (k.trans m.symm)
theorem Ac.join (h:Ac b w L) (B:Below w.heap.size w w') (h2:Ac w.heap.size w' L'):Ac b w' (L++L'):=by
 have e:=h.below B
 have a:∀ (i j:Nat) (s t:Th),L[i]?=some s→L'[j]?=some t→∀ k,s.F k→¬ t.F k:=fun i j s t hs ht k hf c=>by
  have g:=(h.lo i s hs k hf).2
  have f:=(h2.lo j t ht k c).1
  omega
 refine ⟨e.base,fun i t ht=>?_,fun i t ht k hf=>?_,fun i j s t hs ht d k hf=>?_⟩
 ·rcases D8 ht with ht | ⟨_,ht⟩
  ·exact e.all _ t ht
  ·exact h2.all _ t ht
 ·rcases D8 ht with ht | ⟨_,ht⟩
  ·exact e.lo _ t ht k hf
  ·have:=h2.lo _ t ht k hf
   exact ⟨Nat.le_trans h.base this.1,this.2⟩
 ·rcases D8 hs with hs | ⟨hi,hs⟩
  ·rcases D8 ht with ht | ⟨_,ht⟩
   ·exact h.apart i j s t hs ht d k hf
   ·exact a _ _ s t hs ht k hf
  ·rcases D8 ht with ht | ⟨l,ht⟩
   ·exact fun c=>a _ _ t s ht hs k c hf
   ·exact h2.apart _ _ s t hs ht (by omega) k hf
theorem Ac.set (h:Ac b w L) (i:Nat) {s t:Th} (hi:L[i]?=some s) (hs:w.heap.size≤w'.heap.size) (z:t.P w') (q:∀ k,t.F k→k < w'.heap.size∧(s.F k∨w.heap.size≤k)) (y:∀ k,k < w.heap.size→¬ s.F k→w'.heap[k]?=w.heap[k]?):Ac b w' (L.set i t):=by
 have hl:i < L.length:=(List.getElem?_eq_some_iff.1 hi).1
 have hg:∀ (j:Nat) (u:Th),(L.set i t)[j]?=some u→(j=i∧u=t)∨(j≠i∧L[j]?=some u):=fun j u hu=>by
  rw [List.getElem?_set] at hu
  by_cases hij:i=j
  ·subst hij
   rw [if_pos rfl,if_pos hl] at hu
   exact .inl ⟨rfl,(Option.some.inj hu).symm⟩
  ·rw [if_neg hij] at hu
   exact .inr ⟨fun e=>hij e.symm,hu⟩
 refine ⟨Nat.le_trans h.base hs,fun j u hu=>?_,fun j u hu k hf=>?_,fun j l u v hu hv o k hf=>?_⟩
 ·rcases hg j u hu with ⟨_,rfl⟩ | ⟨p,hu⟩
  ·exact z
  ·exact u.fr w w' (h.all j u hu) hs fun k hf r=>y k r fun a=>h.apart i j s u hi hu (fun e=>p e.symm) k a hf
 ·rcases hg j u hu with ⟨_,rfl⟩ | ⟨p,hu⟩
  ·refine ⟨?_,(q k hf).1⟩
   rcases (q k hf).2 with a | g
   ·exact (h.lo i s hi k a).1
   ·exact Nat.le_trans h.base g
  ·have:=h.lo j u hu k hf
   exact ⟨this.1,Nat.lt_of_lt_of_le this.2 hs⟩
 ·rcases hg j u hu with ⟨x,rfl⟩ | ⟨p,f⟩
  ·rcases hg l v hv with ⟨n,_⟩ | ⟨m,c⟩
   ·exact absurd (x.trans n.symm) o
   ·intro d
    rcases (q k hf).2 with a | g
    ·exact h.apart _ l s v hi c (fun e=>m e.symm) k a d
    ·have:=(h.lo l v c k d).2; omega
  ·rcases hg l v hv with ⟨n,rfl⟩ | ⟨m,c⟩
   ·intro d
    rcases (q k d).2 with a | g
    ·exact h.apart _ j s u hi f (fun e=>p e.symm) k a hf
    ·have:=(h.lo j u f k hf).2; omega
   ·exact h.apart j l u v f c o k hf
theorem Ac.add (h:Ac b w L) (t:Th) (c:t.P w) (d:∀ k,¬ t.F k):Ac b w (L++[t]):=
 h.join (L':=[t]) (Below.refl _ _) ⟨Nat.le_refl _,fun i u hu=>by
  cases i with
  | zero=>obtain rfl:=Option.some.inj hu; exact c
  | succ i=>simp at hu,fun i u hu k hf=>by
  cases i with
  | zero=>obtain rfl:=Option.some.inj hu; exact absurd hf (d k)
  | succ i=>simp at hu,fun i j u v hu hv a=>by
  cases i with
  | zero=>cases j with
   | zero=>exact absurd rfl a
   | succ j=>simp at hv
  | succ i=>simp at hu⟩
theorem Ac.addNil {α:Type} (h:Ac b w L) (T:TypeId) (n:Nat) (a:α→List Value→Prop):Ac b w (L++[Th.row T n a none 0 []]):=
 h.add _ ⟨[],trivial,World.ownsRow_nil w 0 T n⟩ (fun k c=>nomatch c)
end
section
variable {b:Nat} {w w':World} {X Y X' Y' Z L:List Th}
theorem Ac.pickT (h:Ac b w (X++(Y++L))) (f:List Nat) (e:f.map ((X++Y)[·]?)=(X'++Y').map some) (hn:f.Nodup):Ac b w (X'++(Y'++L)):=by
 have hm:∀ (i:Nat),i < f.length→∃ t,(X'++Y')[i]?=some t:=fun i hi=>by
  have l:=congrArg List.length e
  rw [List.length_map,List.length_map] at l
  exact ⟨_,List.getElem?_eq_getElem (by omega)⟩
 have hb:∀ k∈f,k < (X++Y).length:=fun k m=>by
  obtain ⟨j,g⟩:=List.mem_iff_getElem?.1 m
  have l:(f.map ((X++Y)[·]?))[j]?=some ((X++Y)[k]?):=by rw [List.getElem?_map,g]; rfl
  rw [e,List.getElem?_map] at l
  obtain ⟨t,_,ht⟩:=Option.map_eq_some_iff.1 l
  exact (List.getElem?_eq_some_iff.1 ht.symm).1
 have hg:∀ k∈f,(X++(Y++L))[k]?=(X++Y)[k]?:=fun k m=>by rw [← List.append_assoc,List.getElem?_append_left (hb k m)]
 rw [← List.append_assoc]
 refine h.pick (f++(List.range L.length).map (· + (X++Y).length)) ?_ ?_
 ·rw [List.map_append,List.map_append,← e]
  congr 1
  ·exact List.map_congr_left hg
  ·refine List.ext_getElem? fun j=>?_
   rw [List.getElem?_map,List.getElem?_map,List.getElem?_map]
   by_cases g:j < L.length
   ·rw [I0,if_pos g,← List.append_assoc,List.getElem?_eq_getElem g]
    simp only [Option.map_some]
    rw [List.getElem?_append_right (by omega),Nat.add_sub_cancel,List.getElem?_eq_getElem g]
   ·rw [I0,if_neg g,List.getElem?_eq_none (by omega)]
    rfl
 ·rw [List.nodup_append]
  refine ⟨hn,?_,fun a ha c hc n=>?_⟩
  ·rw [List.nodup_iff_pairwise_ne,List.pairwise_map]
   exact (List.nodup_iff_pairwise_ne.1 List.nodup_range).imp (by omega)
  ·obtain ⟨d,_,rfl⟩:=List.mem_map.1 hc
   have:=hb a ha
   omega
theorem Ac.joinT (h:Ac b w (X++(Y++L))) (B:Below w.heap.size w w') (h2:Ac w.heap.size w' Z):Ac b w' (X++((Y++Z)++L)):=by
 have k:=h.join B h2
 have c:Ac b w' ((X++Y)++(L++Z)):=by simpa [List.append_assoc] using k
 have d:∀ (i:Nat) (t:Th),((X++Y)++(Z++L))[i]?=some t→((X++Y)++(L++Z))[if i < (X++Y).length then i else if i - (X++Y).length < Z.length then i + L.length else i - Z.length]?=some t:=fun i t ht=>by
  by_cases hi:i < (X++Y).length
  ·rw [if_pos hi,List.getElem?_append_left hi]
   rwa [List.getElem?_append_left hi] at ht
  ·rw [if_neg hi]
   rw [List.getElem?_append_right (by omega)] at ht
   by_cases hz:i - (X++Y).length < Z.length
   ·rw [if_pos hz,List.getElem?_append_right (by omega),List.getElem?_append_right (by omega)]
    rw [List.getElem?_append_left hz] at ht
    rw [show i + L.length - (X++Y).length - L.length=i - (X++Y).length by omega]
    exact ht
   ·rw [if_neg hz]
    rw [List.getElem?_append_right (by omega)] at ht
    have hl:=(List.getElem?_eq_some_iff.1 ht).1
    rw [List.getElem?_append_right (by omega),List.getElem?_append_left (by omega)]
    rw [show i - Z.length - (X++Y).length=i - (X++Y).length - Z.length by omega]
    exact ht
 have l:X++((Y++Z)++L)=(X++Y)++(Z++L):=by simp [List.append_assoc]
 rw [l]
 refine ⟨c.base,fun i t ht=>c.all _ t (d i t ht),fun i t ht=>c.lo _ t (d i t ht),fun i j s t hs ht e=>c.apart _ _ s t (d i s hs) (d j t ht) fun a=>e ?_⟩
 have g:=(List.getElem?_eq_some_iff.1 hs).1
 have f:=(List.getElem?_eq_some_iff.1 ht).1
 simp only [List.length_append] at g f a
 split at a <;> split at a <;> (try split at a) <;> (try split at a) <;> omega
end
structure Wk (w0 w:World) (M:List Az) (L T:List Th):Prop where
 B:Below w0.heap.size w0 w
 H:Ac w0.heap.size w (M.map Th.ent++(L++T))
section
variable {w0 w w':World} {M M':List Az} {L L' T Z:List Th}
theorem Wk.start (w:World):Wk w w [] [] []:=⟨Below.refl _ _,Ac.nil (Nat.le_refl _)⟩
theorem Wk.size (K:Wk w0 w M L T):w0.heap.size≤w.heap.size:=K.B.size
theorem Wk.G (K:Wk w0 w M L T):∀ e∈M,e.good w:=K.H.goods
theorem Wk.ent (K:Wk w0 w M L T) {e:Az} (j:Nat) (h:M[j]?=some e):e.good w:=K.G e (List.mem_of_getElem? h)
theorem Wk.below (K:Wk w0 w M L T) (b:Below w.heap.size w w'):Wk w0 w' M L T:=⟨K.B.trans (b.mono K.B.size),K.H.below b⟩
theorem Wk.join (K:Wk w0 w M L T) (b:Below w.heap.size w w') (h:Ac w.heap.size w' Z):Wk w0 w' M (L++Z) T:=⟨K.B.trans (b.mono K.B.size),K.H.joinT b h⟩
theorem Wk.add (K:Wk w0 w M L T) (b:Below w0.heap.size w w') (h:Ac w0.heap.size w' ((M.map Th.ent++(L++T))++Z)):Wk w0 w' M (L++Z) T:=by
 refine ⟨K.B.trans b,?_⟩
 have c:∀ (i:Nat) (t:Th),(M.map Th.ent++((L++Z)++T))[i]?=some t→((M.map Th.ent++(L++T))++Z)[if i < (M.map Th.ent++L).length then i else if i - (M.map Th.ent++L).length < Z.length then i + T.length else i - Z.length]?=some t:=fun i t ht=>by
  rw [← List.append_assoc,← List.append_assoc] at ht
  rw [← List.append_assoc]
  by_cases hi:i < (M.map Th.ent++L).length
  ·rw [if_pos hi,List.append_assoc,List.getElem?_append_left hi]
   rwa [List.append_assoc,List.getElem?_append_left hi] at ht
  ·rw [if_neg hi]
   rw [List.append_assoc,List.getElem?_append_right (by omega)] at ht
   by_cases hz:i - (M.map Th.ent++L).length < Z.length
   ·rw [if_pos hz,List.append_assoc,List.getElem?_append_right (by omega),List.getElem?_append_right (by omega)]
    rw [List.getElem?_append_left hz] at ht
    rw [show i + T.length - (M.map Th.ent++L).length - T.length=i - (M.map Th.ent++L).length by omega]
    exact ht
   ·rw [if_neg hz]
    rw [List.getElem?_append_right (by omega)] at ht
    have hl:=(List.getElem?_eq_some_iff.1 ht).1
    rw [List.append_assoc,List.getElem?_append_right (by omega),List.getElem?_append_left (by omega)]
    rw [show i - Z.length - (M.map Th.ent++L).length=i - (M.map Th.ent++L).length - Z.length by omega]
    exact ht
 refine ⟨h.base,fun i t ht=>h.all _ t (c i t ht),fun i t ht=>h.lo _ t (c i t ht),fun i j s t hs ht d=>h.apart _ _ s t (c i s hs) (c j t ht) fun a=>d ?_⟩
 have f:=(List.getElem?_eq_some_iff.1 hs).1
 have e:=(List.getElem?_eq_some_iff.1 ht).1
 simp only [List.length_append] at f e a
 split at a <;> split at a <;> (try split at a) <;> (try split at a) <;> omega
def Wk.ix (_:Wk w0 w M L T) (j:Nat):Nat:=M.length + j
theorem Wk.at (K:Wk w0 w M L T) (j:Nat) {t:Th} (h:L[j]?=some t):(M.map Th.ent++(L++T))[K.ix j]?=some t:=by
 unfold Wk.ix
 rw [List.getElem?_append_right (by simp),List.length_map,Nat.add_sub_cancel_left,List.getElem?_append_left (List.getElem?_eq_some_iff.1 h).1]
 exact h
theorem Wk.put (K:Wk w0 w M L T) (j:Nat) (a:j < L.length) {t:Th} (b:Below w0.heap.size w w') (h:Ac w0.heap.size w' ((M.map Th.ent++(L++T)).set (K.ix j) t)):Wk w0 w' M (L.set j t) T:=by
 refine ⟨K.B.trans b,?_⟩
 unfold Wk.ix at h
 rw [List.set_append,if_neg (by simp),List.length_map,Nat.add_sub_cancel_left,List.set_append,if_pos a] at h
 exact h
theorem Wk.pick (K:Wk w0 w M L T) (e f:List Nat) (g:e.map (M[·]?)=M'.map some) (m:f.map (L[·]?)=L'.map some) (i:e.Nodup) (j:f.Nodup):Wk w0 w M' L' T:=by
 refine ⟨K.B,K.H.pickT (e++f.map (· + M.length)) ?_ ?_⟩
 ·have hl:∀ k∈e,k < M.length:=fun k b=>by
   have h:M[k]?∈M'.map some:=by rw [← g]; exact List.mem_map.2 ⟨k,b,rfl⟩
   obtain ⟨x,_,hx⟩:=List.mem_map.1 h
   exact (List.getElem?_eq_some_iff.1 hx.symm).1
  rw [List.map_append,List.map_append]
  congr 1
  ·rw [show (M'.map Th.ent).map some=(M'.map some).map (Option.map Th.ent) by rw [List.map_map,List.map_map]; rfl,← g,List.map_map]
   refine List.map_congr_left fun k b=>?_
   show (M.map Th.ent++L)[k]?=Option.map Th.ent M[k]?
   rw [List.getElem?_append_left (by rw [List.length_map]; exact hl k b),List.getElem?_map]
  ·rw [← m,List.map_map]
   refine List.map_congr_left fun k b=>?_
   show (M.map Th.ent++L)[k + M.length]?=L[k]?
   rw [List.getElem?_append_right (by simp),List.length_map,Nat.add_sub_cancel]
 ·have hl:∀ k∈e,k < M.length:=fun k b=>by
   have h:M[k]?∈M'.map some:=by rw [← g]; exact List.mem_map.2 ⟨k,b,rfl⟩
   obtain ⟨x,_,hx⟩:=List.mem_map.1 h
   exact (List.getElem?_eq_some_iff.1 hx.symm).1
  rw [List.nodup_append]
  refine ⟨i,?_,fun a ha c hc l=>?_⟩
  ·rw [List.nodup_iff_pairwise_ne,List.pairwise_map]
   exact (List.nodup_iff_pairwise_ne.1 j).imp (by omega)
  ·obtain ⟨d,_,rfl⟩:=List.mem_map.1 hc
   have:=hl a ha
   omega
theorem Wk.own (K:Wk w0 w M L T) (a:List Nat) (c:a.map (L[·]?)=L'.map some) (b:a.Nodup):Ac w0.heap.size w (L'++T):=(K.pick (M':=[]) [] a rfl c List.nodup_nil b).H
end
def A8 (P:Program) (n m:Nat) (todo:List Item) (E:Nat→Value) (w:World) (M:List Az) (hints:List (Nat×Nat)):St:=HL P n m ⟨todo,E,⟨w.heap.size,M,(0,0),[]⟩,hints⟩
def BL (P:Program) (n m:Nat) (H:List (Tmp×Nat)) (todo:List Item) (E:Nat→Value) (w:World) (M:List Az):St:=MB P H n m ⟨todo,E,⟨w.heap.size,M,(0,0),[]⟩,[]⟩
def F1 (p:Op→Bool):Nat→List Item→Nat
 | 0,_=>0
 | m + 1,t=>match Gj p t with
  | true=>0
  | false=>match NJ t with
   | some t'=>F1 p m t' + 1
   | none=>0
def Ia (q:Nat):Nat→List Item→Nat
 | 0,_=>0
 | m + 1,t=>match Ky q t with
  | true=>0
  | false=>match NJ t with
   | some t'=>Ia q m t' + 1
   | none=>0
section
variable {P:Program} {f:FuncId} {R:Ending→World→Prop} {n:Nat} {todo:List Item} {E:Nat→Value} {w0 w:World} {M:List Az} {L T:List Th}
theorem KB (m:Nat) (a:List Item) {M':List Az} (K:Wk w0 w M L T) (hints:List (Nat×Nat)) (he:((A8 P n m todo E w M hints).todo,(A8 P n m todo E w M hints).ms.eqs.map Prod.fst,(A8 P n m todo E w M hints).ms.mem,M'.all (·.own))=(a,(A8 P n m todo E w M hints).ms.eqs.map Prod.snd,M',true))
  (d:∀ w',Wk w0 w' M' L T→At P f R a (Fr n (A8 P n m todo E w M hints).env) w'):At P f R todo (Fr n E) w:=by
 simp only [Prod.mk.injEq] at he
 obtain ⟨h,h2,c,g⟩:=he
 refine WX m ⟨todo,E,⟨w.heap.size,M,(0,0),[]⟩,hints⟩ K.H.lies h2 fun w' e b=>?_
 have hr:=K.H.run (M':=(A8 P n m todo E w M hints).ms.mem) e b (by rw [c]; exact g)
 rw [c] at hr
 have:=d w' ⟨K.B.trans (K.H.keptB b),hr⟩
 rw [← h] at this
 exact this
theorem AB (a:List Item) (K:Wk w0 w M L T) (hints:List (Nat×Nat)) (b:∀ w',Wk w0 w' M L T→At P f R a (Fr n (A8 P n 60 todo E w M hints).env) w') (he:((A8 P n 60 todo E w M hints).todo,(A8 P n 60 todo E w M hints).ms.eqs.map Prod.fst,(A8 P n 60 todo E w M hints).ms.mem,M.all (·.own))=(a,(A8 P n 60 todo E w M hints).ms.eqs.map Prod.snd,M,true):=by kernel_rfl):At P f R todo (Fr n E) w:=KB 60 a K hints he b
theorem Af (a:List Item) (M':List Az) (K:Wk w0 w M L T) (hints:List (Nat×Nat)) (b:∀ w',Wk w0 w' M' L T→At P f R a (Fr n (A8 P n 60 todo E w M hints).env) w') (he:((A8 P n 60 todo E w M hints).todo,(A8 P n 60 todo E w M hints).ms.eqs.map Prod.fst,(A8 P n 60 todo E w M hints).ms.mem,M'.all (·.own))=(a,(A8 P n 60 todo E w M hints).ms.eqs.map Prod.snd,M',true):=by kernel_rfl):At P f R todo (Fr n E) w:=KB 60 a K hints he b
theorem Ae (p:Op→Bool) (a:List Item) (K:Wk w0 w M L T) (hints:List (Nat×Nat)) (b:∀ w',Wk w0 w' M L T→At P f R a (Fr n (A8 P n (F1 p 90 todo) todo E w M hints).env) w') (he:((A8 P n (F1 p 90 todo) todo E w M hints).todo,(A8 P n (F1 p 90 todo) todo E w M hints).ms.eqs.map Prod.fst,(A8 P n (F1 p 90 todo) todo E w M hints).ms.mem,M.all (·.own))=(a,(A8 P n (F1 p 90 todo) todo E w M hints).ms.eqs.map Prod.snd,M,true):=by kernel_rfl):At P f R todo (Fr n E) w:=KB (F1 p 90 todo) a K hints he b
theorem CA (p:Op→Bool) (a:List Item) (M':List Az) (K:Wk w0 w M L T) (hints:List (Nat×Nat)) (b:∀ w',Wk w0 w' M' L T→At P f R a (Fr n (A8 P n (F1 p 90 todo) todo E w M hints).env) w') (he:((A8 P n (F1 p 90 todo) todo E w M hints).todo,(A8 P n (F1 p 90 todo) todo E w M hints).ms.eqs.map Prod.fst,(A8 P n (F1 p 90 todo) todo E w M hints).ms.mem,M'.all (·.own))=(a,(A8 P n (F1 p 90 todo) todo E w M hints).ms.eqs.map Prod.snd,M',true):=by kernel_rfl):At P f R todo (Fr n E) w:=KB (F1 p 90 todo) a K hints he b
theorem Am (q:Nat) (a:List Item) (K:Wk w0 w M L T) (hints:List (Nat×Nat)) (b:∀ w',Wk w0 w' M L T→At P f R a (Fr n (A8 P n (Ia q 90 todo) todo E w M hints).env) w') (he:((A8 P n (Ia q 90 todo) todo E w M hints).todo,(A8 P n (Ia q 90 todo) todo E w M hints).ms.eqs.map Prod.fst,(A8 P n (Ia q 90 todo) todo E w M hints).ms.mem,M.all (·.own))=(a,(A8 P n (Ia q 90 todo) todo E w M hints).ms.eqs.map Prod.snd,M,true):=by kernel_rfl):At P f R todo (Fr n E) w:=KB (Ia q 90 todo) a K hints he b
theorem Bp (q:Nat) (a:List Item) (M':List Az) (K:Wk w0 w M L T) (hints:List (Nat×Nat)) (b:∀ w',Wk w0 w' M' L T→At P f R a (Fr n (A8 P n (Ia q 90 todo) todo E w M hints).env) w') (he:((A8 P n (Ia q 90 todo) todo E w M hints).todo,(A8 P n (Ia q 90 todo) todo E w M hints).ms.eqs.map Prod.fst,(A8 P n (Ia q 90 todo) todo E w M hints).ms.mem,M'.all (·.own))=(a,(A8 P n (Ia q 90 todo) todo E w M hints).ms.eqs.map Prod.snd,M',true):=by kernel_rfl):At P f R todo (Fr n E) w:=KB (Ia q 90 todo) a K hints he b
theorem Yf (m:Nat) (a:List Item) (K:Wk w0 w M L T) (hints:List (Nat×Nat)) (he:((A8 P n m todo E w M hints).todo,(A8 P n m todo E w M hints).ms.eqs.map Prod.fst,(A8 P n m todo E w M hints).ms.mem.all (·.own))=(a,(A8 P n m todo E w M hints).ms.eqs.map Prod.snd,true))
  (b:∀ w',Wk w0 w' (A8 P n m todo E w M hints).ms.mem L T→At P f R a (Fr n (A8 P n m todo E w M hints).env) w'):At P f R todo (Fr n E) w:=by
 simp only [Prod.mk.injEq] at he
 exact KB m a K hints (by simp only [Prod.mk.injEq]; exact ⟨he.1,he.2.1,trivial,he.2.2⟩) b
theorem Aj (a:List Item) (K:Wk w0 w M L T) (hints:List (Nat×Nat)) (b:∀ w',Wk w0 w' (A8 P n 60 todo E w M hints).ms.mem L T→At P f R a (Fr n (A8 P n 60 todo E w M hints).env) w') (he:((A8 P n 60 todo E w M hints).todo,(A8 P n 60 todo E w M hints).ms.eqs.map Prod.fst,(A8 P n 60 todo E w M hints).ms.mem.all (·.own))=(a,(A8 P n 60 todo E w M hints).ms.eqs.map Prod.snd,true):=by kernel_rfl):At P f R todo (Fr n E) w:=Yf 60 a K hints he b
theorem Ye (p:Op→Bool) (a:List Item) (K:Wk w0 w M L T) (hints:List (Nat×Nat)) (b:∀ w',Wk w0 w' (A8 P n (F1 p 90 todo) todo E w M hints).ms.mem L T→At P f R a (Fr n (A8 P n (F1 p 90 todo) todo E w M hints).env) w') (he:((A8 P n (F1 p 90 todo) todo E w M hints).todo,(A8 P n (F1 p 90 todo) todo E w M hints).ms.eqs.map Prod.fst,(A8 P n (F1 p 90 todo) todo E w M hints).ms.mem.all (·.own))=(a,(A8 P n (F1 p 90 todo) todo E w M hints).ms.eqs.map Prod.snd,true):=by kernel_rfl):At P f R todo (Fr n E) w:=Yf (F1 p 90 todo) a K hints he b
theorem y0 (m:Nat) (H:List (Tmp×Nat)) (a:List Item) (M':List Az) (K:Wk w0 w M L T) (g:∀ w',Wk w0 w' M' L T→At P f R a (Fr n (BL P n m H todo E w M).env) w') (he:((BL P n m H todo E w M).todo,(BL P n m H todo E w M).ms.eqs.map Prod.fst,(BL P n m H todo E w M).ms.mem,M'.all (·.own))=(a,(BL P n m H todo E w M).ms.eqs.map Prod.snd,M',true):=by kernel_rfl):At P f R todo (Fr n E) w:=by
 simp only [Prod.mk.injEq] at he
 obtain ⟨k,h2,c,j⟩:=he
 refine QO (H:=H) m ⟨todo,E,⟨w.heap.size,M,(0,0),[]⟩,[]⟩ w K.H.lies (fun p e=>?_) fun w' h b=>?_
 ·obtain ⟨i,hi⟩:=List.mem_iff_getElem?.1 e
  have d:((BL P n m H todo E w M).ms.eqs.map Prod.fst)[i]?=some p.1:=by unfold BL; rw [List.getElem?_map,hi]; rfl
  have l:((BL P n m H todo E w M).ms.eqs.map Prod.snd)[i]?=some p.2:=by unfold BL; rw [List.getElem?_map,hi]; rfl
  rw [h2,l] at d
  exact (Option.some.inj d).symm
 ·have hr:=K.H.run (M':=(BL P n m H todo E w M).ms.mem) h b (by rw [c]; exact j)
  rw [c] at hr
  have:=g w' ⟨K.B.trans (K.H.keptB b),hr⟩
  rw [← k] at this
  exact this
theorem CK (m:Nat) (H:List (Tmp×Nat)) (a:List Item) (K:Wk w0 w M L T) (b:∀ w',Wk w0 w' (BL P n m H todo E w M).ms.mem L T→At P f R a (Fr n (BL P n m H todo E w M).env) w') (he:((BL P n m H todo E w M).todo,(BL P n m H todo E w M).ms.eqs.map Prod.fst,(BL P n m H todo E w M).ms.mem.all (·.own))=(a,(BL P n m H todo E w M).ms.eqs.map Prod.snd,true):=by kernel_rfl):At P f R todo (Fr n E) w:=by
 simp only [Prod.mk.injEq] at he
 exact y0 m H a _ K b (by simp only [Prod.mk.injEq]; exact ⟨he.1,he.2.1,trivial,he.2.2⟩)
def BK (n:Nat) (E:Nat→Value) (todo:List Item):Option Tmp:=match Ii n E todo with
 | some c=>c.2.2
 | none=>none
theorem A7 {g:FuncId} {args:List Value} {Q:Ending→World→Prop} (h:Calls P g args.toArray w Q) (b:∀ e w',Q e w'→∃ v,e=.returned v∧At P f R (AC todo) (Fr n (Aq E (BK n E todo) v)) w') (hc:(Ii n E todo).map (fun c=>(c.1,c.2.1.map (Ax n E)))=some (g,args):=by kernel_rfl) (hg:DG P g=true:=by kernel_rfl):At P f R todo (Fr n E) w:=by
 cases hcc:Ii n E todo with
 | none=>rw [hcc] at hc; cases hc
 | some c=>
  obtain ⟨d,xs,dst⟩:=c
  rw [hcc] at hc
  simp only [Option.map_some,Option.some.injEq,Prod.mk.injEq] at hc
  obtain ⟨rfl,ha⟩:=hc
  refine LR d xs dst args hcc ha hg (h.mono fun e w' a=>?_)
  have:=b e w' a
  unfold BK at this
  rw [hcc] at this
  exact this
theorem AQ (K:Wk w0 w M L T) {g:FuncId} {args:List Value} {v:Value} (h:Calls P g args.toArray w fun e w'=>e=.returned v∧Below w.heap.size w w') (a:∀ w',Wk w0 w' M L T→At P f R (AC todo) (Fr n (Aq E (BK n E todo) v)) w') (hc:(Ii n E todo).map (fun c=>(c.1,c.2.1.map (Ax n E)))=some (g,args):=by kernel_rfl) (hg:DG P g=true:=by kernel_rfl):At P f R todo (Fr n E) w:=
 A7 h (fun _ w' ⟨he,hb⟩=>⟨v,he,a w' (K.below hb)⟩) hc hg
def Bb (P:Program) (n:Nat) (ops:Array Oper) (I:Ij) (E:Nat→Value):GS:=(KY P n ops I (List.range ops.size) ⟨E,[]⟩).getD ⟨E,[]⟩
def Cn (n:Nat) (s:GS):List (Nat×Value):=((List.range n).filter fun t=>(Gx s.cx t).isEmpty).map fun t=>(t,s.G t)
def AS (todo:List Item):Array Oper:=(FD todo).getD #[]
theorem Ap (K:Wk w0 w M L T) {mem:List Az} (hints:List (Nat×Nat×Nat)) (specs:List Sp) (j:∀ e∈mem,e.good w) (i:∀ sp∈specs,Eg P n (Below w.heap.size w) (AS todo) sp) (h:∀ w' g,Wk w0 w' M L T→At P f R (AL todo) (Fr n (BC g (Cn n (Bb P n (AS todo) ⟨mem,hints,specs⟩ E)))) w') (ht:(FD todo).isSome=true:=by kernel_rfl) (hB:Region.lexB .any (AS todo)=true:=by kernel_rfl) (hm:P.follows .mixedOrders=true:=by kernel_rfl) (hp:∀ X,(F7 P n (AS todo) ⟨mem,hints,specs⟩ X (List.range (AS todo).size) ⟨E,[]⟩).map Prod.fst=(F7 P n (AS todo) ⟨mem,hints,specs⟩ X (List.range (AS todo).size) ⟨E,[]⟩).map Prod.snd:=by intro _; kernel_rfl) (hl:(KY P n (AS todo) ⟨mem,hints,specs⟩ (List.range (AS todo).size) ⟨E,[]⟩).isSome=true:=by kernel_rfl) (hzs:KZ P n (AS todo) ⟨mem,hints,specs⟩ (List.range (AS todo).size) ⟨E,[]⟩=[]:=by kernel_rfl):At P f R todo (Fr n E) w:=by
 obtain ⟨ops,a⟩:=Option.isSome_iff_exists.1 ht
 have hr:AS todo=ops:=by unfold AS; rw [a]; rfl
 obtain ⟨s,hs⟩:=Option.isSome_iff_exists.1 hl
 have k:Bb P n (AS todo) ⟨mem,hints,specs⟩ E=s:=by unfold Bb; rw [hs]; rfl
 rw [k] at h
 rw [hr] at hB i hp hs hzs
 refine Hv ops ⟨mem,hints,specs⟩ (Cn n s) a hB hm j i hp ?_ (fun w' g b=>h w' g (K.below b)) hzs
 rw [hs]
 simp only [Option.map_some,Option.some.injEq]
 refine List.map_congr_left fun p c=>?_
 unfold Cn at c
 obtain ⟨t,d,rfl⟩:=List.mem_map.1 c
 have:=(List.mem_filter.1 d).2
 simp only [Prod.mk.injEq,true_and]
 exact List.isEmpty_iff.1 this
def Le (P:Program) (f:FuncId) (n:Nat) (E:Nat→Value) (m:MS):Option (Value×MS):=match P.funcs[f]? with
 | some fn=>DO P (FN fn n E) m
 | none=>none
theorem AJ (K:Wk w0 w M L T) (hint:Nat×Nat) (v:Value) (hR:R (.returned v) w) (hr:Px todo=true:=by kernel_rfl) (hv:(Le P f n E ⟨0,M,hint,[]⟩).map (fun r=>(r.1,r.2.eqs.map Prod.fst))=(Le P f n E ⟨0,M,hint,[]⟩).map (fun r=>(v,r.2.eqs.map Prod.snd)):=by kernel_rfl) (hs:(Le P f n E ⟨0,M,hint,[]⟩).isSome=true:=by kernel_rfl):At P f R todo (Fr n E) w:=by
 unfold Le at hv hs
 cases hf:P.funcs[f]? with
 | none=>rw [hf] at hs; cases hs
 | some fn=>
  rw [hf] at hv hs
  simp only at hv hs
  obtain ⟨⟨a,b⟩,hx⟩:=Option.isSome_iff_exists.1 hs
  rw [hx] at hv
  simp only [Option.map_some,Option.some.injEq,Prod.mk.injEq] at hv
  exact lS hr hf ⟨0,M,hint,[]⟩ K.G v (by rw [hx]; exact congrArg some hv.1) (by rw [hx]; exact congrArg some hv.2) hR
theorem AP (K:Wk w0 w M L T) (hint:Nat×Nat) (v:Value) {V:Value} (a:V=v) (hr:Px todo=true:=by kernel_rfl) (hv:(Le P f n E ⟨0,M,hint,[]⟩).map (fun r=>(r.1,r.2.eqs.map Prod.fst))=(Le P f n E ⟨0,M,hint,[]⟩).map (fun r=>(v,r.2.eqs.map Prod.snd)):=by kernel_rfl) (hs:(Le P f n E ⟨0,M,hint,[]⟩).isSome=true:=by kernel_rfl) :
  At P f (fun e w'=>e=.returned V∧Below w0.heap.size w0 w') todo (Fr n E) w:=AJ K hint v ⟨by rw [a],K.B⟩ hr hv hs
end
theorem Ac.entRows {α:Type} {b:Nat} {w:World} {L:List Th} (h:Ac b w L) (i:Nat) {g:Nat} {T:TypeId} {n:Nat} {c:List Value} (a:α→List Value→Prop) (l:List α) (rs:List (List Value)) (hr:EF a l rs) (hc:rs.flatten=c) (hl:c.length=l.length * n) (hm:l.length≤1000000) (hi:L[i]?=some (Th.ent ⟨g,0,c,T,true⟩)):Ac b w (L.set i (Th.row T n a (IN g) l.length l)):=by
 have hg:Az.good w ⟨g,0,c,T,true⟩:=h.all i _ hi
 have h2:=hg.2
 rw [if_pos rfl] at h2
 refine h.set i hi (Nat.le_refl _) ⟨rs,hr,by rw [hc,hl],.inr ⟨g,l.length,c.toArray,rfl,Nat.zero_le _,?_,Nat.le_refl _,by unfold maxLen; omega,by simpa using hl,by rw [List.toList_toArray,hc]; exact List.take_of_length_le (by rw [hl]; exact Nat.le_refl _)⟩⟩ (fun k d=>?_) (fun _ _ _=>rfl)
 ·simpa using h2.1
 ·obtain rfl:g=k:=by have:=Option.some.inj d; injection this
  exact ⟨hg.1,.inl rfl⟩
section
variable {w0 w w':World} {M M':List Az} {L L' F Q T Z:List Th}
theorem Wk.own0 (K:Wk w0 w M L []) (a:List Nat) (c:a.map (L[·]?)=L'.map some) (b:a.Nodup):Ac w0.heap.size w L':=by
 have h:=K.own a c b
 rwa [List.append_nil] at h
theorem Wk.pickL (K:Wk w0 w M L T) (a:List Nat) (c:a.map (L[·]?)=L'.map some) (b:a.Nodup):Wk w0 w M L' T:=by
 refine K.pick (List.range M.length) a ?_ c List.nodup_range b
 refine List.ext_getElem? fun j=>?_
 rw [List.getElem?_map,List.getElem?_map,I0]
 by_cases hj:j < M.length
 ·rw [if_pos hj,List.getElem?_eq_getElem hj]; simp [List.getElem?_eq_getElem hj]
 ·rw [if_neg hj,List.getElem?_eq_none (by omega)]; rfl
theorem Wk.swap {X Y:List Th} {b:Nat} (h:Ac b w (X++Y)):Ac b w (Y++X):=by
 have a:∀ (i:Nat) (t:Th),(Y++X)[i]?=some t→(X++Y)[if i < Y.length then i + X.length else i - Y.length]?=some t:=fun i t ht=>by
  split
  ·rename_i hi
   rw [List.getElem?_append_right (by omega),Nat.add_sub_cancel]
   rwa [List.getElem?_append_left hi] at ht
  ·rename_i hi
   rw [List.getElem?_append_right (by omega)] at ht
   rw [List.getElem?_append_left (List.getElem?_eq_some_iff.1 ht).1]
   exact ht
 refine ⟨h.base,fun i t ht=>h.all _ t (a i t ht),fun i t ht=>h.lo _ t (a i t ht),fun i j s t hs ht c=>h.apart _ _ s t (a i s hs) (a j t ht) fun d=>c ?_⟩
 have f:=(List.getElem?_eq_some_iff.1 hs).1
 have e:=(List.getElem?_eq_some_iff.1 ht).1
 rw [List.length_append] at f e
 split at d <;> split at d <;> omega
theorem Wk.swap3 {X Y V:List Th} {b:Nat} (h:Ac b w (X++(Y++V))):Ac b w (Y++(X++V)):=by
 have c:∀ (i:Nat) (t:Th),(Y++(X++V))[i]?=some t→(X++(Y++V))[if i < Y.length then i + X.length else if i < Y.length + X.length then i - Y.length else i]?=some t:=fun i t ht=>by
  split
  ·rename_i hi
   rw [List.getElem?_append_right (by omega),Nat.add_sub_cancel,List.getElem?_append_left hi]
   rwa [List.getElem?_append_left hi] at ht
  ·rename_i hi
   rw [List.getElem?_append_right (by omega)] at ht
   split
   ·rename_i hx
    rw [List.getElem?_append_left (by omega)] at ht
    rw [List.getElem?_append_left (by omega)]
    exact ht
   ·rename_i hx
    rw [List.getElem?_append_right (by omega)] at ht
    rw [List.getElem?_append_right (by omega),List.getElem?_append_right (by omega),show i - X.length - Y.length=i - Y.length - X.length by omega]
    exact ht
 refine ⟨h.base,fun i t ht=>h.all _ t (c i t ht),fun i t ht=>h.lo _ t (c i t ht),fun i j s t hs ht d=>h.apart _ _ s t (c i s hs) (c j t ht) fun a=>d ?_⟩
 split at a <;> split at a <;> (try split at a) <;> (try split at a) <;> omega
theorem Wk.front (K:Wk w0 w M (F++Q) T):Ac w0.heap.size w (F++(M.map Th.ent++(Q++T))):=by
 have h:=K.H
 rw [List.append_assoc] at h
 exact Wk.swap3 h
theorem Wk.unfront (b:Below w0.heap.size w0 w) (h:Ac w0.heap.size w (F++(M.map Th.ent++(Q++T)))):Wk w0 w M (F++Q) T:=⟨b,by
 rw [List.append_assoc]
 exact Wk.swap3 h⟩
theorem Wk.joinE {e:Az} (K:Wk w0 w M L T) (b:Below w.heap.size w w') (h:Ac w.heap.size w' (Th.ent e :: Z)):Wk w0 w' (M++[e]) (L++Z) T:=by
 refine ⟨K.B.trans (b.mono K.B.size),?_⟩
 have d:=K.H.join b h
 have m:(M.map Th.ent++(L++T))++(Th.ent e :: Z)=M.map Th.ent++((L++T)++([Th.ent e]++Z)):=by simp
 rw [m] at d
 have h2:Ac w0.heap.size w' (M.map Th.ent++((L++([Th.ent e]++Z))++T)):=by
  have:=Wk.swap3 (X:=M.map Th.ent) (Y:=L++T) (V:=[Th.ent e]++Z) d
  have a:Ac w0.heap.size w' (L++(T++(M.map Th.ent++([Th.ent e]++Z)))):=by simpa [List.append_assoc] using this
  have l:=Wk.swap a
  have k:Ac w0.heap.size w' (T++((M.map Th.ent++([Th.ent e]++Z))++L)):=by simpa [List.append_assoc] using l
  have j:=Wk.swap k
  have i:Ac w0.heap.size w' (M.map Th.ent++(([Th.ent e]++Z)++(L++T))):=by simpa [List.append_assoc] using j
  have g:=Wk.swap3 i
  have f:Ac w0.heap.size w' (([Th.ent e]++Z)++((M.map Th.ent++L)++T)):=by simpa [List.append_assoc] using g
  have c:=Wk.swap3 f
  simpa [List.append_assoc] using c
 have a:Ac w0.heap.size w' ((M.map Th.ent++[Th.ent e])++((L++Z)++T)):=by
  have p:Ac w0.heap.size w' (M.map Th.ent++(L++([Th.ent e]++(Z++T)))):=by simpa [List.append_assoc] using h2
  have o:=Wk.swap p
  have a3:Ac w0.heap.size w' (L++([Th.ent e]++((Z++T)++M.map Th.ent))):=by simpa [List.append_assoc] using o
  have a4:=Wk.swap3 a3
  have a5:Ac w0.heap.size w' (([Th.ent e]++(L++(Z++T)))++M.map Th.ent):=by simpa [List.append_assoc] using a4
  have n:=Wk.swap a5
  simpa [List.append_assoc] using n
 simpa using a
theorem Wk.addNil {α:Type} (K:Wk w0 w M L T) (U:TypeId) (n:Nat) (a:α→List Value→Prop):Wk w0 w M (L++[Th.row U n a none 0 []]) T:=
 K.join (Below.refl _ _) ((Ac.nil (Nat.le_refl _)).addNil U n a)
theorem Wk.entRows {α:Type} (K:Wk w0 w M L T) (j:Nat) {g:Nat} {U:TypeId} {n:Nat} {m:List Value} (a:α→List Value→Prop) (l:List α) (rs:List (List Value)) (hr:EF a l rs) (hc:rs.flatten=m) (hl:m.length=l.length * n) (hm:l.length≤1000000) (hi:M[j]?=some ⟨g,0,m,U,true⟩) :
  Wk w0 w (M.eraseIdx j) (L++[Th.row U n a (IN g) l.length l]) T:=by
 have d:j < M.length:=(List.getElem?_eq_some_iff.1 hi).1
 have e:=K.H.entRows j a l rs hr hc hl hm (by rw [List.getElem?_append_left (by rw [List.length_map]; exact d),List.getElem?_map,hi]; rfl)
 have h2:((M.map Th.ent++(L++T)).set j (Th.row U n a (IN g) l.length l))=(M.map Th.ent).set j (Th.row U n a (IN g) l.length l)++(L++T):=by rw [List.set_append,if_pos (by rw [List.length_map]; exact d)]
 rw [h2] at e
 refine ⟨K.B,?_⟩
 have f:∀ (i:Nat) (t:Th),((M.eraseIdx j).map Th.ent++((L++[Th.row U n a (IN g) l.length l])++T))[i]?=some t→((M.map Th.ent).set j (Th.row U n a (IN g) l.length l)++(L++T))[if i < j then i else if i < M.length - 1 + L.length then i + 1 else if i=M.length - 1 + L.length then j else i]?=some t:=fun i t ht=>by
  have b:(M.eraseIdx j).length=M.length - 1:=by rw [List.length_eraseIdx,if_pos d]
  by_cases h3:i < M.length - 1
  ·rw [List.getElem?_append_left (by rw [List.length_map,b]; exact h3),List.getElem?_map,List.getElem?_eraseIdx] at ht
   by_cases h4:i < j
   ·rw [if_pos h4] at ht ⊢
    rw [List.getElem?_append_left (by rw [List.length_set,List.length_map]; omega),List.getElem?_set,if_neg (by omega),List.getElem?_map]
    exact ht
   ·rw [if_neg h4] at ht ⊢
    rw [if_pos (by omega),List.getElem?_append_left (by rw [List.length_set,List.length_map]; omega),List.getElem?_set,if_neg (by omega),List.getElem?_map]
    exact ht
  ·rw [List.getElem?_append_right (by rw [List.length_map,b]; omega),List.length_map,b] at ht
   rw [if_neg (by omega)]
   by_cases h5:i < M.length - 1 + L.length
   ·rw [if_pos h5,List.getElem?_append_right (by rw [List.length_set,List.length_map]; omega),List.length_set,List.length_map,List.getElem?_append_left (by omega)]
    rw [List.append_assoc,List.getElem?_append_left (by omega)] at ht
    rw [show i + 1 - M.length=i - (M.length - 1) by omega]
    exact ht
   ·rw [if_neg h5]
    rw [List.append_assoc,List.getElem?_append_right (by omega)] at ht
    by_cases h6:i=M.length - 1 + L.length
    ·rw [if_pos h6,List.getElem?_append_left (by rw [List.length_set,List.length_map]; exact d),List.getElem?_set,if_pos rfl,if_pos (by rw [List.length_map]; exact d)]
     rw [List.getElem?_append_left (by simp; omega),show i - (M.length - 1) - L.length=0 by omega] at ht
     exact ht
    ·rw [if_neg h6,List.getElem?_append_right (by rw [List.length_set,List.length_map]; omega),List.length_set,List.length_map,List.getElem?_append_right (by omega)]
     rw [List.getElem?_append_right (by simp; omega),List.length_singleton] at ht
     rw [show i - M.length - L.length=i - (M.length - 1) - L.length - 1 by omega]
     exact ht
 refine ⟨e.base,fun i t ht=>e.all _ t (f i t ht),fun i t ht=>e.lo _ t (f i t ht),fun i k s t hs ht h=>e.apart _ _ s t (f i s hs) (f k t ht) fun c=>h ?_⟩
 split at c <;> split at c <;> (try split at c) <;> (try split at c) <;> (try split at c) <;> (try split at c) <;> omega
theorem Wk.entRow {α:Type} (K:Wk w0 w M L T) (j:Nat) {g:Nat} {U:TypeId} {n:Nat} (a:α→List Value→Prop) (hi:M[j]?=some ⟨g,0,[],U,true⟩):Wk w0 w (M.eraseIdx j) (L++[Th.row U n a (IN g) 0 ([]:List α)]) T:=
 K.entRows j a [] [] trivial rfl (by simp) (by simp) hi
end
section
variable {P:Program} {f:FuncId} {R:Ending→World→Prop} {n:Nat} {todo:List Item} {E:Nat→Value} {w0 w w':World} {M:List Az} {L T:List Th}
theorem C4 {v:Value} (hx:(execOp (Ax n E) (Br todo)).run P w=.ok (.value v) w') (h:At P f R (AC todo) (Fr n (Aq E (Br todo).dst v)) w') (hc:Fx n E todo=some (Br todo):=by kernel_rfl):At P f R todo (Fr n E) w:=QL (Br todo) hc hx h
theorem M3 (g:FuncId) (args:List Value) {Q:Ending→World→Prop} (h:Calls P g args.toArray w Q) (a:∀ e w',Q e w'→∃ v,e=.returned v∧At P f R (AC todo) (Fr n (Aq E (((Hp n E todo).map (·.2.2)).getD none) v)) w') (hc:(Hp n E todo).map (fun c=>(c.1,c.2.1))=some (g,args):=by kernel_rfl) (hg:DG P g=true:=by kernel_rfl):At P f R todo (Fr n E) w:=by
 cases hcc:Hp n E todo with
 | none=>rw [hcc] at hc; cases hc
 | some c=>
  obtain ⟨d,xs,dst⟩:=c
  rw [hcc] at hc a
  simp only [Option.map_some,Option.some.injEq,Prod.mk.injEq] at hc
  obtain ⟨rfl,rfl⟩:=hc
  exact no d xs dst hcc hg (h.mono fun e w' b=>a e w' b)
theorem Rk (K:Wk w0 w M L T) {g:FuncId} {args:List Value} {v:Value} (h:Calls P g args.toArray w fun e w'=>e=.returned v∧Below w.heap.size w w') (a:∀ w',Wk w0 w' M L T→At P f R (AC todo) (Fr n (Aq E (((Hp n E todo).map (·.2.2)).getD none) v)) w') (hc:(Hp n E todo).map (fun c=>(c.1,c.2.1))=some (g,args):=by kernel_rfl) (hg:DG P g=true:=by kernel_rfl):At P f R todo (Fr n E) w:=
 M3 g args h (fun _ w' ⟨he,hb⟩=>⟨v,he,a w' (K.below hb)⟩) hc hg
theorem AG (t:Bool) (a:t=true→At P f R (AD todo) (Fr n E) w) (h2:t=false→At P f R (AF todo) (Fr n E) w) (hc:(Qu todo).map (Ax n E)=some (.bool t):=by kernel_rfl):At P f R todo (Fr n E) w:=Dc t (hc:=hc) a h2
theorem AU (l:List (Nat×Value)) (a:∀ E',At P f R todo (Fr n (BC E' l)) w) (h:l.map (fun p=>E p.1)=l.map (·.2):=by kernel_rfl):At P f R todo (Fr n E) w:=Oa l h a
theorem AR {fn:Func} {c:Code} {args:List Value} (h:At P f R [.code c] (Fr n (fun t=>args.getD t undef)) w) (hf:P.funcs[f]?=some fn:=by kernel_rfl) (hb:fn.body=some c:=by kernel_rfl) (hn:fn.ntmps=n:=by kernel_rfl) (hl:Nat.ble args.length n=true:=by kernel_rfl):Calls P f args.toArray w R:=Hs (hf:=hf) (hb:=hb) (hn:=hn) (hl:=hl) h
theorem Wk.pk (K:Wk w0 w M L T) (a b:List Nat) {M':List Az} {L':List Th} (c:a.map (M[·]?)=M'.map some:=by kernel_rfl) (hL:b.map (L[·]?)=L'.map some:=by rfl) (nM:a.Nodup:=by decide) (nL:b.Nodup:=by decide):Wk w0 w M' L' T:=K.pick a b c hL nM nL
end
end
end Go.Proofs.YtkjbdagicjbjjaaGreat

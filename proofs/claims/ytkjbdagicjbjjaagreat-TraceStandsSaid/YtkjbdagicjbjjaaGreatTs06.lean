/- Contracts of functions, part 6. -/
import Derived.Test.YtkjbdagicjbjjaaGreatTs05
import Derived.Laws.Append
import Derived.OwnWalk
import Derived.Maps.AppendAt
import Derived.Maps.OwnSet
set_option linter.all false
namespace Go.Proofs.YtkjbdagicjbjjaaGreat
noncomputable section
open Go.RowKit
set_option maxRecDepth 100000
structure Th where
 F:Nat→Prop
 P:World→Prop
 fr:∀ w w',P w→w.heap.size≤w'.heap.size→(∀ k,F k→k < w.heap.size→w'.heap[k]?=w.heap[k]?)→P w'
theorem GY {w w':World} {e:A7} (hg:e.good w) (hs:w.heap.size≤w'.heap.size) (hb:w'.heap[e.id]?=w.heap[e.id]?):e.good w':=by
 refine ⟨Nat.lt_of_lt_of_le hg.1 hs,?_⟩
 have h2:=hg.2
 split at h2
 ·rename_i ho; rw [if_pos ho,hb]; exact h2
 rename_i ho
 rw [if_neg ho]
 exact fun j v hv=>(World.cell?_of_block hb).trans (h2 j v hv)
def Th.ent (e:A7):Th:=⟨(·=e.id),fun w=>e.good w,fun _ _ h hs hk=>GY h hs (hk _ rfl h.1)⟩
theorem Dj {w:World} {base:Nat} {T:TypeId} {n:Nat} {A:Option Addr} {k c m:Nat} {xs:List Value} (h:w.ownsRow base T n (.slice A k c) m xs) {g:Nat} (hg:(Value.slice A k c).ownBlock=some g):A=some ⟨g,0,none⟩∧g < w.heap.size:=by
 rcases h.2 with ⟨h1,_⟩ | ⟨g',cap,cur,h1,hb,hr⟩
 ·cases h1; simp [Value.ownBlock] at hg
 cases h1
 simp [Value.ownBlock] at hg
 subst hg
 exact ⟨rfl,(Array.getElem?_eq_some_iff.1 hr.1).1⟩
def ET {α:Type} (rel:α→List Value→Prop):List α→List (List Value)→Prop
 | [],[]=>True
 | a :: l,r :: rs=>rel a r∧ET rel l rs
 | _,_=>False
theorem Hf {α:Type} {rel:α→List Value→Prop}:∀ {l:List α} {rs:List (List Value)},ET rel l rs→rs.length=l.length
 | [],[],_=>rfl
 | [],_ :: _,h=>h.elim
 | _ :: _,[],h=>h.elim
 | _ :: _,_ :: _,h=>congrArg (· + 1) (Hf h.2)
theorem NX {α:Type} {rel:α→List Value→Prop} {e:α} {r:List Value} (h:rel e r):∀ {l:List α} {rs:List (List Value)},ET rel l rs→ET rel (l++[e]) (rs++[r])
 | [],[],_=>⟨h,trivial⟩
 | [],_ :: _,h=>h.elim
 | _ :: _,[],h=>h.elim
 | _ :: _,_ :: _,k=>⟨k.1,NX h k.2⟩
theorem Wu {α:Type} {rel:α→List Value→Prop} {e:α} {r:List Value} (h:rel e r):∀ {l:List α} {rs:List (List Value)} (i:Nat),ET rel l rs→ET rel (l.set i e) (rs.set i r)
 | [],[],_,_=>trivial
 | [],_ :: _,_,h=>h.elim
 | _ :: _,[],_,h=>h.elim
 | _ :: _,_ :: _,0,k=>⟨h,k.2⟩
 | _ :: _,_ :: _,i + 1,k=>⟨k.1,Wu h i k.2⟩
theorem IU {α:Type} {f:α→List Value}:∀ {l:List α} {rs:List (List Value)},ET (fun e r=>r=f e) l rs→rs=l.map f
 | [],[],_=>rfl
 | [],_ :: _,h=>h.elim
 | _ :: _,[],h=>h.elim
 | _ :: _,_ :: _,h=>by rw [h.1,IU h.2]; rfl
theorem LK {α:Type} {rel:α→List Value→Prop} {n:Nat} (hn:∀ e r,rel e r→r.length=n):∀ {l:List α} {rs:List (List Value)},ET rel l rs→∀ r∈rs,r.length=n
 | [],[],_,r,hr=>by cases hr
 | [],_ :: _,h,_,_=>h.elim
 | _ :: _,[],h,_,_=>h.elim
 | _ :: _,r' :: _,h,r,hr=>by
  rcases List.mem_cons.1 hr with rfl | hr
  ·exact hn _ _ h.1
  exact LK hn h.2 r hr
def Th.row {α:Type} (T:TypeId) (n:Nat) (rel:α→List Value→Prop) (A:Option Addr) (c:Nat) (l:List α):Th:=
 ⟨fun k=>A=some ⟨k,0,none⟩,fun w=>∃ rs,ET rel l rs∧w.ownsRow 0 T n (.slice A l.length c) l.length rs.flatten,fun _ _ ⟨rs,hr,h⟩ _ hk=>⟨rs,hr,Nb h fun _ hg=>hk _ (Dj h hg).1 (Dj h hg).2⟩⟩
structure Aj (b:Nat) (w:World) (L:List Th):Prop where
 base:b≤w.heap.size
 all:∀ (i:Nat) (t:Th),L[i]?=some t→t.P w
 lo:∀ (i:Nat) (t:Th),L[i]?=some t→∀ k,t.F k→b≤k∧k < w.heap.size
 apart:∀ (i j:Nat) (s t:Th),L[i]?=some s→L[j]?=some t→i≠j→∀ k,s.F k→¬ t.F k
section
variable {b:Nat} {w w':World} {L L':List Th}
theorem Aj.nil (h:b≤w.heap.size):Aj b w []:=⟨h,fun i t h=>by simp at h,fun i t h=>by simp at h,fun i j s t h=>by simp at h⟩
theorem Aj.fr (h:Aj b w L) (hs:w.heap.size≤w'.heap.size) (hk:∀ k,b≤k→k < w.heap.size→w'.heap[k]?=w.heap[k]?):Aj b w' L:=
 ⟨Nat.le_trans h.base hs,fun i t ht=>t.fr w w' (h.all i t ht) hs fun k hf hl=>hk k (h.lo i t ht k hf).1 hl,fun i t ht k hf=>⟨(h.lo i t ht k hf).1,Nat.lt_of_lt_of_le (h.lo i t ht k hf).2 hs⟩,h.apart⟩
theorem Aj.below (h:Aj b w L) (B:Below w.heap.size w w'):Aj b w' L:=h.fr B.size fun k _ hk=>B.block k hk
theorem Aj.goods {M:List A7} (h:Aj b w (M.map Th.ent++L)):∀ e∈M,e.good w:=fun e he=>by
 obtain ⟨i,hi⟩:=List.mem_iff_getElem?.1 he
 have hl:i < M.length:=(List.getElem?_eq_some_iff.1 hi).1
 exact h.all i (Th.ent e) (by rw [List.getElem?_append_left (by simpa using hl),List.getElem?_map,hi]; rfl)
theorem Aj.ids {M:List A7} (h:Aj b w (M.map Th.ent++L)):∀ k∈M.map (·.id),b≤k∧k < w.heap.size:=fun k hk=>by
 obtain ⟨e,he,rfl⟩:=List.mem_map.1 hk
 obtain ⟨i,hi⟩:=List.mem_iff_getElem?.1 he
 have hl:i < M.length:=(List.getElem?_eq_some_iff.1 hi).1
 exact h.lo i (Th.ent e) (by rw [List.getElem?_append_left (by simpa using hl),List.getElem?_map,hi]; rfl) _ rfl
theorem Aj.nodup {M:List A7} (h:Aj b w (M.map Th.ent++L)):(M.map (·.id)).Nodup:=by
 rw [List.nodup_iff_pairwise_ne,List.pairwise_iff_getElem]
 intro i j hi hj hij
 rw [List.length_map] at hi hj
 have e1:M[i]?=some M[i]:=List.getElem?_eq_getElem hi
 have e2:M[j]?=some M[j]:=List.getElem?_eq_getElem hj
 have:=h.apart i j (Th.ent M[i]) (Th.ent M[j]) (by rw [List.getElem?_append_left (by simpa using hi),List.getElem?_map,e1]; rfl) (by rw [List.getElem?_append_left (by simpa using hj),List.getElem?_map,e2]; rfl) (by omega) M[i].id rfl
 rw [List.getElem_map,List.getElem_map]
 exact fun e=>this e
theorem Aj.lies {M:List A7} (h:Aj b w (M.map Th.ent++L)):EU (M.map (·.id)) w.heap.size w ⟨w.heap.size,M,(0,0),[]⟩:=OV w M h.goods h.nodup
theorem Aj.keptB {M:List A7} (h:Aj b w (M.map Th.ent++L)) (hK:FH (M.map (·.id)) w.heap.size w w'):Below b w w':=hK.below h.base fun k hk=>(h.ids k hk).1
theorem EP {α:Type} {l r:List α} {i:Nat} {x:α} (h:(l++r)[i]?=some x):l[i]?=some x∨(l.length≤i∧r[i - l.length]?=some x):=by
 by_cases hl:i < l.length
 ·exact .inl (by rwa [List.getElem?_append_left hl] at h)
 exact .inr ⟨by omega,by rwa [List.getElem?_append_right (by omega)] at h⟩
theorem wd {α:Type} {l r:List α} {i:Nat} {x:α} (h:l.length≤i) (hr:r[i - l.length]?=some x):(l++r)[i]?=some x:=by rw [List.getElem?_append_right h]; exact hr
theorem JA {α β:Type} {f:α→β} {l:List α} {i:Nat} {y:β} (h:(l.map f)[i]?=some y):∃ x,l[i]?=some x∧f x=y:=by rw [List.getElem?_map] at h; exact Option.map_eq_some_iff.1 h
theorem Aj.run {M M':List A7} {z:Nat} {x:Nat×Nat} {q:List (Nat×Nat)} (h:Aj b w (M.map Th.ent++L)) (hL:EU (M.map (·.id)) w.heap.size w' ⟨z,M',x,q⟩) (hK:FH (M.map (·.id)) w.heap.size w w') (ho:M'.all (·.own)=true):Aj b w' (M'.map Th.ent++L):=by
 have hid:∀ e∈M',e.id∈M.map (·.id)∨w.heap.size≤e.id:=fun e he=>hL.own e he (List.all_eq_true.1 ho e he)
 have hgd:∀ e∈M',e.good w':=hL.sat.good
 have hX:∀ (j:Nat) (t:Th),L[j]?=some t→(M.map Th.ent++L)[M.length + j]?=some t:=fun j t ht=>wd (by simp) (by simpa using ht)
 have hMx:∀ k∈M.map (·.id),∃ (i:Nat) (e:A7),M[i]?=some e∧e.id=k:=fun k hk=>by
  obtain ⟨e,he,rfl⟩:=List.mem_map.1 hk
  obtain ⟨i,hi⟩:=List.mem_iff_getElem?.1 he
  exact ⟨i,e,hi,rfl⟩
 have hM:∀ (i:Nat) (e:A7),M[i]?=some e→(M.map Th.ent++L)[i]?=some (Th.ent e):=fun i e hi=>by
  have hl:i < M.length:=(List.getElem?_eq_some_iff.1 hi).1
  rw [List.getElem?_append_left (by simpa using hl),List.getElem?_map,hi]
  rfl
 have hoff:∀ (j:Nat) (t:Th),L[j]?=some t→∀ k,t.F k→k∉M.map (·.id):=fun j t ht k hf hm=>by
  obtain ⟨i,e,hi,rfl⟩:=hMx k hm
  have hl:i < M.length:=(List.getElem?_eq_some_iff.1 hi).1
  exact h.apart i (M.length + j) (Th.ent e) t (hM i e hi) (hX j t ht) (by omega) e.id rfl hf
 have hkk:∀ (j:Nat) (t:Th),L[j]?=some t→∀ k,t.F k→k < w.heap.size→w'.heap[k]?=w.heap[k]?:=fun j t ht k hf hl=>hK.block k hl (hoff j t ht k hf)
 have hcross:∀ (i j:Nat) (e:A7) (t:Th),M'[i]?=some e→L[j]?=some t→¬ t.F e.id:=fun i j e t he ht hf=>by
  rcases hid e (List.mem_of_getElem? he) with hm | hm
  ·exact hoff j t ht _ hf hm
  have:=(h.lo _ t (hX j t ht) _ hf).2
  omega
 refine ⟨Nat.le_trans h.base hK.size,fun i t ht=>?_,fun i t ht k hf=>?_,fun i j s t hs ht hij k hf=>?_⟩
 ·rcases EP ht with ht | ⟨_,ht⟩
  ·obtain ⟨e,he,rfl⟩:=JA ht
   exact hgd e (List.mem_of_getElem? he)
  exact t.fr w w' (h.all _ t (hX _ t ht)) hK.size (hkk _ t ht)
 ·rcases EP ht with ht | ⟨_,ht⟩
  ·obtain ⟨e,he,rfl⟩:=JA ht
   obtain rfl:k=e.id:=hf
   refine ⟨?_,(hgd e (List.mem_of_getElem? he)).1⟩
   rcases hid e (List.mem_of_getElem? he) with hm | hm
   ·exact (h.ids _ hm).1
   exact Nat.le_trans h.base hm
  have:=h.lo _ t (hX _ t ht) k hf
  exact ⟨this.1,Nat.lt_of_lt_of_le this.2 hK.size⟩
 rcases EP hs with hs | ⟨hi,hs⟩
 ·obtain ⟨e,he,rfl⟩:=JA hs
  obtain rfl:k=e.id:=hf
  rcases EP ht with ht | ⟨_,ht⟩
  ·obtain ⟨e',he',rfl⟩:=JA ht
   exact fun hk:e.id=e'.id=>hL.sat.apart i j e e' he he' (List.all_eq_true.1 ho e (List.mem_of_getElem? he)) hij hk
  exact hcross i _ e t he ht
 rcases EP ht with ht | ⟨hj,ht⟩
 ·obtain ⟨e',he',rfl⟩:=JA ht
  exact fun hk:k=e'.id=>hcross j _ e' s he' hs (hk ▸ hf)
 simp only [List.length_map] at hi hj hs ht
 exact h.apart _ _ s t (hX _ s hs) (hX _ t ht) (by omega) k hf
theorem Aj.pick (h:Aj b w L) (is:List Nat) (e:is.map (L[·]?)=L'.map some) (hn:is.Nodup):Aj b w L':=by
 have hg:∀ (j:Nat) (t:Th),L'[j]?=some t→∃ i,is[j]?=some i∧L[i]?=some t:=fun j t ht=>by
  have h1:(L'.map some)[j]?=some (some t):=by rw [List.getElem?_map,ht]; rfl
  rw [← e,List.getElem?_map] at h1
  exact Option.map_eq_some_iff.1 h1
 refine ⟨h.base,fun j t ht=>?_,fun j t ht=>?_,fun i j s t hs ht hij=>?_⟩
 ·obtain ⟨i,_,hi⟩:=hg j t ht; exact h.all i t hi
 ·obtain ⟨i,_,hi⟩:=hg j t ht; exact h.lo i t hi
 obtain ⟨p,hp,hp'⟩:=hg i s hs
 obtain ⟨q,hq,hq'⟩:=hg j t ht
 refine h.apart p q s t hp' hq' fun hpq=>hij ?_
 subst hpq
 have hl:i < is.length:=(List.getElem?_eq_some_iff.1 hp).1
 exact (List.getElem?_inj hl hn).1 (hp.trans hq.symm)
theorem Aj.join (h:Aj b w L) (B:Below w.heap.size w w') (h2:Aj w.heap.size w' L'):Aj b w' (L++L'):=by
 have h1:=h.below B
 have cross:∀ (i j:Nat) (s t:Th),L[i]?=some s→L'[j]?=some t→∀ k,s.F k→¬ t.F k:=fun i j s t hs ht k hf hf2=>by
  have q1:=(h.lo i s hs k hf).2
  have q2:=(h2.lo j t ht k hf2).1
  omega
 refine ⟨h1.base,fun i t ht=>?_,fun i t ht k hf=>?_,fun i j s t hs ht hij k hf=>?_⟩
 ·rcases EP ht with ht | ⟨_,ht⟩
  ·exact h1.all _ t ht
  exact h2.all _ t ht
 ·rcases EP ht with ht | ⟨_,ht⟩
  ·exact h1.lo _ t ht k hf
  have:=h2.lo _ t ht k hf
  exact ⟨Nat.le_trans h.base this.1,this.2⟩
 rcases EP hs with hs | ⟨hi,hs⟩
 ·rcases EP ht with ht | ⟨_,ht⟩
  ·exact h.apart i j s t hs ht hij k hf
  exact cross _ _ s t hs ht k hf
 rcases EP ht with ht | ⟨hj,ht⟩
 ·exact fun hf2=>cross _ _ t s ht hs k hf2 hf
 exact h2.apart _ _ s t hs ht (by omega) k hf
theorem Aj.set (h:Aj b w L) (i:Nat) {s t:Th} (hi:L[i]?=some s) (hs:w.heap.size≤w'.heap.size) (hP:t.P w') (hF:∀ k,t.F k→k < w'.heap.size∧(s.F k∨w.heap.size≤k)) (hk:∀ k,k < w.heap.size→¬ s.F k→w'.heap[k]?=w.heap[k]?):Aj b w' (L.set i t):=by
 have hl:i < L.length:=(List.getElem?_eq_some_iff.1 hi).1
 have hg:∀ (j:Nat) (u:Th),(L.set i t)[j]?=some u→(j=i∧u=t)∨(j≠i∧L[j]?=some u):=fun j u hu=>by
  rw [List.getElem?_set] at hu
  by_cases hij:i=j
  ·subst hij
   rw [if_pos rfl,if_pos hl] at hu
   exact .inl ⟨rfl,(Option.some.inj hu).symm⟩
  rw [if_neg hij] at hu
  exact .inr ⟨fun e=>hij e.symm,hu⟩
 refine ⟨Nat.le_trans h.base hs,fun j u hu=>?_,fun j u hu k hf=>?_,fun j l u v hu hv hjl k hf=>?_⟩
 ·rcases hg j u hu with ⟨_,rfl⟩ | ⟨hj,hu⟩
  ·exact hP
  exact u.fr w w' (h.all j u hu) hs fun k hf hkl=>hk k hkl fun hsf=>h.apart i j s u hi hu (fun e=>hj e.symm) k hsf hf
 ·rcases hg j u hu with ⟨_,rfl⟩ | ⟨hj,hu⟩
  ·refine ⟨?_,(hF k hf).1⟩
   rcases (hF k hf).2 with hsf | hge
   ·exact (h.lo i s hi k hsf).1
   exact Nat.le_trans h.base hge
  have:=h.lo j u hu k hf
  exact ⟨this.1,Nat.lt_of_lt_of_le this.2 hs⟩
 rcases hg j u hu with ⟨hj1,rfl⟩ | ⟨hj,hu1⟩
 ·rcases hg l v hv with ⟨hl1,_⟩ | ⟨hl2,hv1⟩
  ·exact absurd (hj1.trans hl1.symm) hjl
  intro hf2
  rcases (hF k hf).2 with hsf | hge
  ·exact h.apart _ l s v hi hv1 (fun e=>hl2 e.symm) k hsf hf2
  have:=(h.lo l v hv1 k hf2).2; omega
 rcases hg l v hv with ⟨hl1,rfl⟩ | ⟨hl2,hv1⟩
 ·intro hf2
  rcases (hF k hf2).2 with hsf | hge
  ·exact h.apart _ j s u hi hu1 (fun e=>hj e.symm) k hsf hf
  have:=(h.lo j u hu1 k hf).2; omega
 exact h.apart j l u v hu1 hv1 hjl k hf
theorem Aj.add (h:Aj b w L) (t:Th) (hP:t.P w) (hF:∀ k,¬ t.F k):Aj b w (L++[t]):=
 h.join (L':=[t]) (Below.refl _ _) ⟨Nat.le_refl _,fun i u hu=>by
  cases i with
  | zero=>obtain rfl:=Option.some.inj hu; exact hP
  | succ i=>simp at hu,fun i u hu k hf=>by
  cases i with
  | zero=>obtain rfl:=Option.some.inj hu; exact absurd hf (hF k)
  | succ i=>simp at hu,fun i j u v hu hv hij=>by
  cases i with
  | zero=>cases j with
   | zero=>exact absurd rfl hij
   | succ j=>simp at hv
  | succ i=>simp at hu⟩
theorem Aj.addNil {α:Type} (h:Aj b w L) (T:TypeId) (n:Nat) (rel:α→List Value→Prop):Aj b w (L++[Th.row T n rel none 0 []]):=
 h.add _ ⟨[],trivial,World.ownsRow_nil w 0 T n⟩ (fun k hk=>nomatch hk)
end
section
variable {b:Nat} {w w':World} {X Y X' Y' Z L:List Th}
theorem Aj.pickT (h:Aj b w (X++(Y++L))) (is:List Nat) (e:is.map ((X++Y)[·]?)=(X'++Y').map some) (hn:is.Nodup):Aj b w (X'++(Y'++L)):=by
 have hm:∀ (i:Nat),i < is.length→∃ t,(X'++Y')[i]?=some t:=fun i hi=>by
  have h1:=congrArg List.length e
  rw [List.length_map,List.length_map] at h1
  exact ⟨_,List.getElem?_eq_getElem (by omega)⟩
 have hb:∀ k∈is,k < (X++Y).length:=fun k hk=>by
  obtain ⟨j,hj⟩:=List.mem_iff_getElem?.1 hk
  have h1:(is.map ((X++Y)[·]?))[j]?=some ((X++Y)[k]?):=by rw [List.getElem?_map,hj]; rfl
  rw [e,List.getElem?_map] at h1
  obtain ⟨t,_,ht⟩:=Option.map_eq_some_iff.1 h1
  exact (List.getElem?_eq_some_iff.1 ht.symm).1
 have hg:∀ k∈is,(X++(Y++L))[k]?=(X++Y)[k]?:=fun k hk=>by rw [← List.append_assoc,List.getElem?_append_left (hb k hk)]
 rw [← List.append_assoc]
 refine h.pick (is++(List.range L.length).map (· + (X++Y).length)) ?_ ?_
 ·rw [List.map_append,List.map_append,← e]
  congr 1
  ·exact List.map_congr_left hg
  refine List.ext_getElem? fun j=>?_
  rw [List.getElem?_map,List.getElem?_map,List.getElem?_map]
  by_cases hj:j < L.length
  ·rw [JX,if_pos hj,← List.append_assoc,List.getElem?_eq_getElem hj]
   simp only [Option.map_some]
   rw [List.getElem?_append_right (by omega),Nat.add_sub_cancel,List.getElem?_eq_getElem hj]
  rw [JX,if_neg hj,List.getElem?_eq_none (by omega)]
  rfl
 rw [List.nodup_append]
 refine ⟨hn,?_,fun a ha c hc hac=>?_⟩
 ·rw [List.nodup_iff_pairwise_ne,List.pairwise_map]
  exact (List.nodup_iff_pairwise_ne.1 List.nodup_range).imp (by omega)
 obtain ⟨d,_,rfl⟩:=List.mem_map.1 hc
 have:=hb a ha
 omega
theorem Aj.joinT (h:Aj b w (X++(Y++L))) (B:Below w.heap.size w w') (h2:Aj w.heap.size w' Z):Aj b w' (X++((Y++Z)++L)):=by
 have h1:=h.join B h2
 have h3:Aj b w' ((X++Y)++(L++Z)):=by simpa [List.append_assoc] using h1
 have e1:∀ (i:Nat) (t:Th),((X++Y)++(Z++L))[i]?=some t→((X++Y)++(L++Z))[if i < (X++Y).length then i else if i - (X++Y).length < Z.length then i + L.length else i - Z.length]?=some t:=fun i t ht=>by
  by_cases hi:i < (X++Y).length
  ·rw [if_pos hi,List.getElem?_append_left hi]
   rwa [List.getElem?_append_left hi] at ht
  rw [if_neg hi]
  rw [List.getElem?_append_right (by omega)] at ht
  by_cases hz:i - (X++Y).length < Z.length
  ·rw [if_pos hz,List.getElem?_append_right (by omega),List.getElem?_append_right (by omega)]
   rw [List.getElem?_append_left hz] at ht
   rw [show i + L.length - (X++Y).length - L.length=i - (X++Y).length by omega]
   exact ht
  rw [if_neg hz]
  rw [List.getElem?_append_right (by omega)] at ht
  have hl:=(List.getElem?_eq_some_iff.1 ht).1
  rw [List.getElem?_append_right (by omega),List.getElem?_append_left (by omega)]
  rw [show i - Z.length - (X++Y).length=i - (X++Y).length - Z.length by omega]
  exact ht
 have e2:X++((Y++Z)++L)=(X++Y)++(Z++L):=by simp [List.append_assoc]
 rw [e2]
 refine ⟨h3.base,fun i t ht=>h3.all _ t (e1 i t ht),fun i t ht=>h3.lo _ t (e1 i t ht),fun i j s t hs ht hij=>h3.apart _ _ s t (e1 i s hs) (e1 j t ht) fun hq=>hij ?_⟩
 have q1:=(List.getElem?_eq_some_iff.1 hs).1
 have q2:=(List.getElem?_eq_some_iff.1 ht).1
 simp only [List.length_append] at q1 q2 hq
 split at hq <;> split at hq <;> (try split at hq) <;> (try split at hq) <;> omega
end
structure Wk (w0 w:World) (M:List A7) (L T:List Th):Prop where
 B:Below w0.heap.size w0 w
 H:Aj w0.heap.size w (M.map Th.ent++(L++T))
section
variable {w0 w w':World} {M M':List A7} {L L' T Z:List Th}
theorem Wk.start (w:World):Wk w w [] [] []:=⟨Below.refl _ _,Aj.nil (Nat.le_refl _)⟩
theorem Wk.size (K:Wk w0 w M L T):w0.heap.size≤w.heap.size:=K.B.size
theorem Wk.G (K:Wk w0 w M L T):∀ e∈M,e.good w:=K.H.goods
theorem Wk.ent (K:Wk w0 w M L T) {e:A7} (j:Nat) (h:M[j]?=some e):e.good w:=K.G e (List.mem_of_getElem? h)
theorem Wk.below (K:Wk w0 w M L T) (b:Below w.heap.size w w'):Wk w0 w' M L T:=⟨K.B.trans (b.mono K.B.size),K.H.below b⟩
theorem Wk.join (K:Wk w0 w M L T) (b:Below w.heap.size w w') (h:Aj w.heap.size w' Z):Wk w0 w' M (L++Z) T:=⟨K.B.trans (b.mono K.B.size),K.H.joinT b h⟩
theorem Wk.add (K:Wk w0 w M L T) (b:Below w0.heap.size w w') (h:Aj w0.heap.size w' ((M.map Th.ent++(L++T))++Z)):Wk w0 w' M (L++Z) T:=by
 refine ⟨K.B.trans b,?_⟩
 have e1:∀ (i:Nat) (t:Th),(M.map Th.ent++((L++Z)++T))[i]?=some t→((M.map Th.ent++(L++T))++Z)[if i < (M.map Th.ent++L).length then i else if i - (M.map Th.ent++L).length < Z.length then i + T.length else i - Z.length]?=some t:=fun i t ht=>by
  rw [← List.append_assoc,← List.append_assoc] at ht
  rw [← List.append_assoc]
  by_cases hi:i < (M.map Th.ent++L).length
  ·rw [if_pos hi,List.append_assoc,List.getElem?_append_left hi]
   rwa [List.append_assoc,List.getElem?_append_left hi] at ht
  rw [if_neg hi]
  rw [List.append_assoc,List.getElem?_append_right (by omega)] at ht
  by_cases hz:i - (M.map Th.ent++L).length < Z.length
  ·rw [if_pos hz,List.append_assoc,List.getElem?_append_right (by omega),List.getElem?_append_right (by omega)]
   rw [List.getElem?_append_left hz] at ht
   rw [show i + T.length - (M.map Th.ent++L).length - T.length=i - (M.map Th.ent++L).length by omega]
   exact ht
  rw [if_neg hz]
  rw [List.getElem?_append_right (by omega)] at ht
  have hl:=(List.getElem?_eq_some_iff.1 ht).1
  rw [List.append_assoc,List.getElem?_append_right (by omega),List.getElem?_append_left (by omega)]
  rw [show i - Z.length - (M.map Th.ent++L).length=i - (M.map Th.ent++L).length - Z.length by omega]
  exact ht
 refine ⟨h.base,fun i t ht=>h.all _ t (e1 i t ht),fun i t ht=>h.lo _ t (e1 i t ht),fun i j s t hs ht hij=>h.apart _ _ s t (e1 i s hs) (e1 j t ht) fun hq=>hij ?_⟩
 have q1:=(List.getElem?_eq_some_iff.1 hs).1
 have q2:=(List.getElem?_eq_some_iff.1 ht).1
 simp only [List.length_append] at q1 q2 hq
 split at hq <;> split at hq <;> (try split at hq) <;> (try split at hq) <;> omega
def Wk.ix (_:Wk w0 w M L T) (j:Nat):Nat:=M.length + j
theorem Wk.at (K:Wk w0 w M L T) (j:Nat) {t:Th} (h:L[j]?=some t):(M.map Th.ent++(L++T))[K.ix j]?=some t:=by
 unfold Wk.ix
 rw [List.getElem?_append_right (by simp),List.length_map,Nat.add_sub_cancel_left,List.getElem?_append_left (List.getElem?_eq_some_iff.1 h).1]
 exact h
theorem Wk.put (K:Wk w0 w M L T) (j:Nat) (hj:j < L.length) {t:Th} (b:Below w0.heap.size w w') (h:Aj w0.heap.size w' ((M.map Th.ent++(L++T)).set (K.ix j) t)):Wk w0 w' M (L.set j t) T:=by
 refine ⟨K.B.trans b,?_⟩
 unfold Wk.ix at h
 rw [List.set_append,if_neg (by simp),List.length_map,Nat.add_sub_cancel_left,List.set_append,if_pos hj] at h
 exact h
theorem Wk.pick (K:Wk w0 w M L T) (iM iL:List Nat) (hM:iM.map (M[·]?)=M'.map some) (hL:iL.map (L[·]?)=L'.map some) (nM:iM.Nodup) (nL:iL.Nodup):Wk w0 w M' L' T:=by
 refine ⟨K.B,K.H.pickT (iM++iL.map (· + M.length)) ?_ ?_⟩
 ·have hl:∀ k∈iM,k < M.length:=fun k hk=>by
   have h1:M[k]?∈M'.map some:=by rw [← hM]; exact List.mem_map.2 ⟨k,hk,rfl⟩
   obtain ⟨x,_,hx⟩:=List.mem_map.1 h1
   exact (List.getElem?_eq_some_iff.1 hx.symm).1
  rw [List.map_append,List.map_append]
  congr 1
  ·rw [show (M'.map Th.ent).map some=(M'.map some).map (Option.map Th.ent) by rw [List.map_map,List.map_map]; rfl,← hM,List.map_map]
   refine List.map_congr_left fun k hk=>?_
   show (M.map Th.ent++L)[k]?=Option.map Th.ent M[k]?
   rw [List.getElem?_append_left (by rw [List.length_map]; exact hl k hk),List.getElem?_map]
  rw [← hL,List.map_map]
  refine List.map_congr_left fun k hk=>?_
  show (M.map Th.ent++L)[k + M.length]?=L[k]?
  rw [List.getElem?_append_right (by simp),List.length_map,Nat.add_sub_cancel]
 have hl:∀ k∈iM,k < M.length:=fun k hk=>by
  have h1:M[k]?∈M'.map some:=by rw [← hM]; exact List.mem_map.2 ⟨k,hk,rfl⟩
  obtain ⟨x,_,hx⟩:=List.mem_map.1 h1
  exact (List.getElem?_eq_some_iff.1 hx.symm).1
 rw [List.nodup_append]
 refine ⟨nM,?_,fun a ha c hc hac=>?_⟩
 ·rw [List.nodup_iff_pairwise_ne,List.pairwise_map]
  exact (List.nodup_iff_pairwise_ne.1 nL).imp (by omega)
 obtain ⟨d,_,rfl⟩:=List.mem_map.1 hc
 have:=hl a ha
 omega
theorem Wk.own (K:Wk w0 w M L T) (iL:List Nat) (hL:iL.map (L[·]?)=L'.map some) (nL:iL.Nodup):Aj w0.heap.size w (L'++T):=(K.pick (M':=[]) [] iL rfl hL List.nodup_nil nL).H
end
def BD (P:Program) (n m:Nat) (todo:List Item) (E:Nat→Value) (w:World) (M:List A7) (hints:List (Nat×Nat)):St:=H0 P n m ⟨todo,E,⟨w.heap.size,M,(0,0),[]⟩,hints⟩
def BP (P:Program) (n m:Nat) (H:List (Tmp×Nat)) (todo:List Item) (E:Nat→Value) (w:World) (M:List A7):St:=M3 P H n m ⟨todo,E,⟨w.heap.size,M,(0,0),[]⟩,[]⟩
def GT (p:Op→Bool):Nat→List Item→Nat
 | 0,_=>0
 | m + 1,t=>match HU p t with
  | true=>0
  | false=>match OM t with
   | some t'=>GT p m t' + 1
   | none=>0
def I4 (q:Nat):Nat→List Item→Nat
 | 0,_=>0
 | m + 1,t=>match Ln q t with
  | true=>0
  | false=>match OM t with
   | some t'=>I4 q m t' + 1
   | none=>0
section
variable {P:Program} {f:FuncId} {R:Ending→World→Prop} {n:Nat} {todo:List Item} {E:Nat→Value} {w0 w:World} {M:List A7} {L T:List Th}
theorem Kx (m:Nat) (td':List Item) {M':List A7} (K:Wk w0 w M L T) (hints:List (Nat×Nat)) (he:((BD P n m todo E w M hints).todo,(BD P n m todo E w M hints).ms.eqs.map Prod.fst,(BD P n m todo E w M hints).ms.mem,M'.all (·.own))=(td',(BD P n m todo E w M hints).ms.eqs.map Prod.snd,M',true))
  (hk:∀ w',Wk w0 w' M' L T→At P f R td' (Fr n (BD P n m todo E w M hints).env) w'):At P f R todo (Fr n E) w:=by
 simp only [Prod.mk.injEq] at he
 obtain ⟨h1,h2,h3,h4⟩:=he
 refine YA m ⟨todo,E,⟨w.heap.size,M,(0,0),[]⟩,hints⟩ K.H.lies h2 fun w' hL hK=>?_
 have hr:=K.H.run (M':=(BD P n m todo E w M hints).ms.mem) hL hK (by rw [h3]; exact h4)
 rw [h3] at hr
 have:=hk w' ⟨K.B.trans (K.H.keptB hK),hr⟩
 rw [← h1] at this
 exact this
theorem AB (td':List Item) (K:Wk w0 w M L T) (hints:List (Nat×Nat)) (hk:∀ w',Wk w0 w' M L T→At P f R td' (Fr n (BD P n 60 todo E w M hints).env) w') (he:((BD P n 60 todo E w M hints).todo,(BD P n 60 todo E w M hints).ms.eqs.map Prod.fst,(BD P n 60 todo E w M hints).ms.mem,M.all (·.own))=(td',(BD P n 60 todo E w M hints).ms.eqs.map Prod.snd,M,true):=by kernel_rfl):At P f R todo (Fr n E) w:=Kx 60 td' K hints he hk
theorem Ah (td':List Item) (M':List A7) (K:Wk w0 w M L T) (hints:List (Nat×Nat)) (hk:∀ w',Wk w0 w' M' L T→At P f R td' (Fr n (BD P n 60 todo E w M hints).env) w') (he:((BD P n 60 todo E w M hints).todo,(BD P n 60 todo E w M hints).ms.eqs.map Prod.fst,(BD P n 60 todo E w M hints).ms.mem,M'.all (·.own))=(td',(BD P n 60 todo E w M hints).ms.eqs.map Prod.snd,M',true):=by kernel_rfl):At P f R todo (Fr n E) w:=Kx 60 td' K hints he hk
theorem Ak (p:Op→Bool) (td':List Item) (K:Wk w0 w M L T) (hints:List (Nat×Nat)) (hk:∀ w',Wk w0 w' M L T→At P f R td' (Fr n (BD P n (GT p 90 todo) todo E w M hints).env) w') (he:((BD P n (GT p 90 todo) todo E w M hints).todo,(BD P n (GT p 90 todo) todo E w M hints).ms.eqs.map Prod.fst,(BD P n (GT p 90 todo) todo E w M hints).ms.mem,M.all (·.own))=(td',(BD P n (GT p 90 todo) todo E w M hints).ms.eqs.map Prod.snd,M,true):=by kernel_rfl):At P f R todo (Fr n E) w:=Kx (GT p 90 todo) td' K hints he hk
theorem CY (p:Op→Bool) (td':List Item) (M':List A7) (K:Wk w0 w M L T) (hints:List (Nat×Nat)) (hk:∀ w',Wk w0 w' M' L T→At P f R td' (Fr n (BD P n (GT p 90 todo) todo E w M hints).env) w') (he:((BD P n (GT p 90 todo) todo E w M hints).todo,(BD P n (GT p 90 todo) todo E w M hints).ms.eqs.map Prod.fst,(BD P n (GT p 90 todo) todo E w M hints).ms.mem,M'.all (·.own))=(td',(BD P n (GT p 90 todo) todo E w M hints).ms.eqs.map Prod.snd,M',true):=by kernel_rfl):At P f R todo (Fr n E) w:=Kx (GT p 90 todo) td' K hints he hk
theorem As (q:Nat) (td':List Item) (K:Wk w0 w M L T) (hints:List (Nat×Nat)) (hk:∀ w',Wk w0 w' M L T→At P f R td' (Fr n (BD P n (I4 q 90 todo) todo E w M hints).env) w') (he:((BD P n (I4 q 90 todo) todo E w M hints).todo,(BD P n (I4 q 90 todo) todo E w M hints).ms.eqs.map Prod.fst,(BD P n (I4 q 90 todo) todo E w M hints).ms.mem,M.all (·.own))=(td',(BD P n (I4 q 90 todo) todo E w M hints).ms.eqs.map Prod.snd,M,true):=by kernel_rfl):At P f R todo (Fr n E) w:=Kx (I4 q 90 todo) td' K hints he hk
theorem CC (q:Nat) (td':List Item) (M':List A7) (K:Wk w0 w M L T) (hints:List (Nat×Nat)) (hk:∀ w',Wk w0 w' M' L T→At P f R td' (Fr n (BD P n (I4 q 90 todo) todo E w M hints).env) w') (he:((BD P n (I4 q 90 todo) todo E w M hints).todo,(BD P n (I4 q 90 todo) todo E w M hints).ms.eqs.map Prod.fst,(BD P n (I4 q 90 todo) todo E w M hints).ms.mem,M'.all (·.own))=(td',(BD P n (I4 q 90 todo) todo E w M hints).ms.eqs.map Prod.snd,M',true):=by kernel_rfl):At P f R todo (Fr n E) w:=Kx (I4 q 90 todo) td' K hints he hk
theorem aP (m:Nat) (td':List Item) (K:Wk w0 w M L T) (hints:List (Nat×Nat)) (he:((BD P n m todo E w M hints).todo,(BD P n m todo E w M hints).ms.eqs.map Prod.fst,(BD P n m todo E w M hints).ms.mem.all (·.own))=(td',(BD P n m todo E w M hints).ms.eqs.map Prod.snd,true))
  (hk:∀ w',Wk w0 w' (BD P n m todo E w M hints).ms.mem L T→At P f R td' (Fr n (BD P n m todo E w M hints).env) w'):At P f R todo (Fr n E) w:=by
 simp only [Prod.mk.injEq] at he
 exact Kx m td' K hints (by simp only [Prod.mk.injEq]; exact ⟨he.1,he.2.1,trivial,he.2.2⟩) hk
theorem Am (td':List Item) (K:Wk w0 w M L T) (hints:List (Nat×Nat)) (hk:∀ w',Wk w0 w' (BD P n 60 todo E w M hints).ms.mem L T→At P f R td' (Fr n (BD P n 60 todo E w M hints).env) w') (he:((BD P n 60 todo E w M hints).todo,(BD P n 60 todo E w M hints).ms.eqs.map Prod.fst,(BD P n 60 todo E w M hints).ms.mem.all (·.own))=(td',(BD P n 60 todo E w M hints).ms.eqs.map Prod.snd,true):=by kernel_rfl):At P f R todo (Fr n E) w:=aP 60 td' K hints he hk
theorem aO (p:Op→Bool) (td':List Item) (K:Wk w0 w M L T) (hints:List (Nat×Nat)) (hk:∀ w',Wk w0 w' (BD P n (GT p 90 todo) todo E w M hints).ms.mem L T→At P f R td' (Fr n (BD P n (GT p 90 todo) todo E w M hints).env) w') (he:((BD P n (GT p 90 todo) todo E w M hints).todo,(BD P n (GT p 90 todo) todo E w M hints).ms.eqs.map Prod.fst,(BD P n (GT p 90 todo) todo E w M hints).ms.mem.all (·.own))=(td',(BD P n (GT p 90 todo) todo E w M hints).ms.eqs.map Prod.snd,true):=by kernel_rfl):At P f R todo (Fr n E) w:=aP (GT p 90 todo) td' K hints he hk
theorem ABh (m:Nat) (H:List (Tmp×Nat)) (td':List Item) (M':List A7) (K:Wk w0 w M L T) (hk:∀ w',Wk w0 w' M' L T→At P f R td' (Fr n (BP P n m H todo E w M).env) w') (he:((BP P n m H todo E w M).todo,(BP P n m H todo E w M).ms.eqs.map Prod.fst,(BP P n m H todo E w M).ms.mem,M'.all (·.own))=(td',(BP P n m H todo E w M).ms.eqs.map Prod.snd,M',true):=by kernel_rfl):At P f R todo (Fr n E) w:=by
 simp only [Prod.mk.injEq] at he
 obtain ⟨h1,h2,h3,h4⟩:=he
 refine Rk (H:=H) m ⟨todo,E,⟨w.heap.size,M,(0,0),[]⟩,[]⟩ w K.H.lies (fun p hp=>?_) fun w' hL hK=>?_
 ·obtain ⟨i,hi⟩:=List.mem_iff_getElem?.1 hp
  have g1:((BP P n m H todo E w M).ms.eqs.map Prod.fst)[i]?=some p.1:=by unfold BP; rw [List.getElem?_map,hi]; rfl
  have g2:((BP P n m H todo E w M).ms.eqs.map Prod.snd)[i]?=some p.2:=by unfold BP; rw [List.getElem?_map,hi]; rfl
  rw [h2,g2] at g1
  exact (Option.some.inj g1).symm
 have hr:=K.H.run (M':=(BP P n m H todo E w M).ms.mem) hL hK (by rw [h3]; exact h4)
 rw [h3] at hr
 have:=hk w' ⟨K.B.trans (K.H.keptB hK),hr⟩
 rw [← h1] at this
 exact this
theorem CZ (m:Nat) (H:List (Tmp×Nat)) (td':List Item) (K:Wk w0 w M L T) (hk:∀ w',Wk w0 w' (BP P n m H todo E w M).ms.mem L T→At P f R td' (Fr n (BP P n m H todo E w M).env) w') (he:((BP P n m H todo E w M).todo,(BP P n m H todo E w M).ms.eqs.map Prod.fst,(BP P n m H todo E w M).ms.mem.all (·.own))=(td',(BP P n m H todo E w M).ms.eqs.map Prod.snd,true):=by kernel_rfl):At P f R todo (Fr n E) w:=by
 simp only [Prod.mk.injEq] at he
 exact ABh m H td' _ K hk (by simp only [Prod.mk.injEq]; exact ⟨he.1,he.2.1,trivial,he.2.2⟩)
def BO (n:Nat) (E:Nat→Value) (todo:List Item):Option Tmp:=match JD n E todo with
 | some c=>c.2.2
 | none=>none
theorem BA {g:FuncId} {args:List Value} {Q:Ending→World→Prop} (h:Calls P g args.toArray w Q) (hk:∀ e w',Q e w'→∃ v,e=.returned v∧At P f R (AC todo) (Fr n (Aw E (BO n E todo) v)) w') (hc:(JD n E todo).map (fun c=>(c.1,c.2.1.map (A8 n E)))=some (g,args):=by kernel_rfl) (hg:DX P g=true:=by kernel_rfl):At P f R todo (Fr n E) w:=by
 cases hcc:JD n E todo with
 | none=>rw [hcc] at hc; cases hc
 | some c=>
  obtain ⟨g',xs,dst⟩:=c
  rw [hcc] at hc
  simp only [Option.map_some,Option.some.injEq,Prod.mk.injEq] at hc
  obtain ⟨rfl,ha⟩:=hc
  refine L9 g' xs dst args hcc ha hg (h.mono fun e w' hq=>?_)
  have:=hk e w' hq
  unfold BO at this
  rw [hcc] at this
  exact this
theorem AP (K:Wk w0 w M L T) {g:FuncId} {args:List Value} {v:Value} (h:Calls P g args.toArray w fun e w'=>e=.returned v∧Below w.heap.size w w') (hk:∀ w',Wk w0 w' M L T→At P f R (AC todo) (Fr n (Aw E (BO n E todo) v)) w') (hc:(JD n E todo).map (fun c=>(c.1,c.2.1.map (A8 n E)))=some (g,args):=by kernel_rfl) (hg:DX P g=true:=by kernel_rfl):At P f R todo (Fr n E) w:=
 BA h (fun _ w' ⟨he,hb⟩=>⟨v,he,hk w' (K.below hb)⟩) hc hg
def Bk (P:Program) (n:Nat) (ops:Array Oper) (I:JF) (E:Nat→Value):GS:=(LQ P n ops I (List.range ops.size) ⟨E,[]⟩).getD ⟨E,[]⟩
def C6 (n:Nat) (s:GS):List (Nat×Value):=((List.range n).filter fun t=>(Ho s.cx t).isEmpty).map fun t=>(t,s.G t)
def AR (todo:List Item):Array Oper:=(FY todo).getD #[]
theorem Av (K:Wk w0 w M L T) {mem:List A7} (hints:List (Nat×Nat×Nat)) (specs:List Sp) (hM:∀ e∈mem,e.good w) (hS:∀ sp∈specs,FG P n (Below w.heap.size w) (AR todo) sp) (hk:∀ w' E',Wk w0 w' M L T→At P f R (AM todo) (Fr n (BE E' (C6 n (Bk P n (AR todo) ⟨mem,hints,specs⟩ E)))) w') (ht:(FY todo).isSome=true:=by kernel_rfl) (hB:Region.lexB .any (AR todo)=true:=by kernel_rfl) (hm:P.follows .mixedOrders=true:=by kernel_rfl) (hp:∀ X,(GZ P n (AR todo) ⟨mem,hints,specs⟩ X (List.range (AR todo).size) ⟨E,[]⟩).map Prod.fst=(GZ P n (AR todo) ⟨mem,hints,specs⟩ X (List.range (AR todo).size) ⟨E,[]⟩).map Prod.snd:=by intro _; kernel_rfl) (hl:(LQ P n (AR todo) ⟨mem,hints,specs⟩ (List.range (AR todo).size) ⟨E,[]⟩).isSome=true:=by kernel_rfl) (hzs:LR P n (AR todo) ⟨mem,hints,specs⟩ (List.range (AR todo).size) ⟨E,[]⟩=[]:=by kernel_rfl):At P f R todo (Fr n E) w:=by
 obtain ⟨ops,hops⟩:=Option.isSome_iff_exists.1 ht
 have hr:AR todo=ops:=by unfold AR; rw [hops]; rfl
 obtain ⟨s,hs⟩:=Option.isSome_iff_exists.1 hl
 have hE:Bk P n (AR todo) ⟨mem,hints,specs⟩ E=s:=by unfold Bk; rw [hs]; rfl
 rw [hE] at hk
 rw [hr] at hB hS hp hs hzs
 refine Ib ops ⟨mem,hints,specs⟩ (C6 n s) hops hB hm hM hS hp ?_ (fun w' E' b=>hk w' E' (K.below b)) hzs
 rw [hs]
 simp only [Option.map_some,Option.some.injEq]
 refine List.map_congr_left fun p hpm=>?_
 unfold C6 at hpm
 obtain ⟨t,ht2,rfl⟩:=List.mem_map.1 hpm
 have:=(List.mem_filter.1 ht2).2
 simp only [Prod.mk.injEq,true_and]
 exact List.isEmpty_iff.1 this
def MW (P:Program) (f:FuncId) (n:Nat) (E:Nat→Value) (m:MS):Option (Value×MS):=match P.funcs[f]? with
 | some fn=>Dh P (Fj fn n E) m
 | none=>none
theorem AK (K:Wk w0 w M L T) (hint:Nat×Nat) (v:Value) (hR:R (.returned v) w) (hr:RI todo=true:=by kernel_rfl) (hv:(MW P f n E ⟨0,M,hint,[]⟩).map (fun r=>(r.1,r.2.eqs.map Prod.fst))=(MW P f n E ⟨0,M,hint,[]⟩).map (fun r=>(v,r.2.eqs.map Prod.snd)):=by kernel_rfl) (hs:(MW P f n E ⟨0,M,hint,[]⟩).isSome=true:=by kernel_rfl):At P f R todo (Fr n E) w:=by
 unfold MW at hv hs
 cases hf:P.funcs[f]? with
 | none=>rw [hf] at hs; cases hs
 | some fn=>
  rw [hf] at hv hs
  simp only at hv hs
  obtain ⟨⟨v',m'⟩,hx⟩:=Option.isSome_iff_exists.1 hs
  rw [hx] at hv
  simp only [Option.map_some,Option.some.injEq,Prod.mk.injEq] at hv
  exact n0 hr hf ⟨0,M,hint,[]⟩ K.G v (by rw [hx]; exact congrArg some hv.1) (by rw [hx]; exact congrArg some hv.2) hR
theorem AO (K:Wk w0 w M L T) (hint:Nat×Nat) (v:Value) {V:Value} (hV:V=v) (hr:RI todo=true:=by kernel_rfl) (hv:(MW P f n E ⟨0,M,hint,[]⟩).map (fun r=>(r.1,r.2.eqs.map Prod.fst))=(MW P f n E ⟨0,M,hint,[]⟩).map (fun r=>(v,r.2.eqs.map Prod.snd)):=by kernel_rfl) (hs:(MW P f n E ⟨0,M,hint,[]⟩).isSome=true:=by kernel_rfl) :
  At P f (fun e w'=>e=.returned V∧Below w0.heap.size w0 w') todo (Fr n E) w:=AK K hint v ⟨by rw [hV],K.B⟩ hr hv hs
end
theorem Aj.entRows {α:Type} {b:Nat} {w:World} {L:List Th} (h:Aj b w L) (i:Nat) {g:Nat} {T:TypeId} {n:Nat} {cs:List Value} (rel:α→List Value→Prop) (l:List α) (rs:List (List Value)) (hr:ET rel l rs) (hc:rs.flatten=cs) (hl:cs.length=l.length * n) (hm:l.length≤1000000) (hi:L[i]?=some (Th.ent ⟨g,0,cs,T,true⟩)):Aj b w (L.set i (Th.row T n rel (some ⟨g,0,none⟩) l.length l)):=by
 have hg:A7.good w ⟨g,0,cs,T,true⟩:=h.all i _ hi
 have h2:=hg.2
 rw [if_pos rfl] at h2
 refine h.set i hi (Nat.le_refl _) ⟨rs,hr,by rw [hc,hl],.inr ⟨g,l.length,cs.toArray,rfl,Nat.zero_le _,?_,Nat.le_refl _,by unfold maxLen; omega,by simpa using hl,by rw [List.toList_toArray,hc]; exact List.take_of_length_le (by rw [hl]; exact Nat.le_refl _)⟩⟩ (fun k hk=>?_) (fun _ _ _=>rfl)
 ·simpa using h2.1
 obtain rfl:g=k:=by have:=Option.some.inj hk; injection this
 exact ⟨hg.1,.inl rfl⟩
section
variable {w0 w w':World} {M M':List A7} {L L' F Q T Z:List Th}
theorem Wk.own0 (K:Wk w0 w M L []) (iL:List Nat) (hL:iL.map (L[·]?)=L'.map some) (nL:iL.Nodup):Aj w0.heap.size w L':=by
 have h:=K.own iL hL nL
 rwa [List.append_nil] at h
theorem Wk.pickL (K:Wk w0 w M L T) (iL:List Nat) (hL:iL.map (L[·]?)=L'.map some) (nL:iL.Nodup):Wk w0 w M L' T:=by
 refine K.pick (List.range M.length) iL ?_ hL List.nodup_range nL
 refine List.ext_getElem? fun j=>?_
 rw [List.getElem?_map,List.getElem?_map,JX]
 by_cases hj:j < M.length
 ·rw [if_pos hj,List.getElem?_eq_getElem hj]; simp [List.getElem?_eq_getElem hj]
 rw [if_neg hj,List.getElem?_eq_none (by omega)]; rfl
theorem Wk.swap {X Y:List Th} {b:Nat} (h:Aj b w (X++Y)):Aj b w (Y++X):=by
 have e1:∀ (i:Nat) (t:Th),(Y++X)[i]?=some t→(X++Y)[if i < Y.length then i + X.length else i - Y.length]?=some t:=fun i t ht=>by
  split
  ·rename_i hi
   rw [List.getElem?_append_right (by omega),Nat.add_sub_cancel]
   rwa [List.getElem?_append_left hi] at ht
  rename_i hi
  rw [List.getElem?_append_right (by omega)] at ht
  rw [List.getElem?_append_left (List.getElem?_eq_some_iff.1 ht).1]
  exact ht
 refine ⟨h.base,fun i t ht=>h.all _ t (e1 i t ht),fun i t ht=>h.lo _ t (e1 i t ht),fun i j s t hs ht hij=>h.apart _ _ s t (e1 i s hs) (e1 j t ht) fun hq=>hij ?_⟩
 have q1:=(List.getElem?_eq_some_iff.1 hs).1
 have q2:=(List.getElem?_eq_some_iff.1 ht).1
 rw [List.length_append] at q1 q2
 split at hq <;> split at hq <;> omega
theorem Wk.swap3 {X Y V:List Th} {b:Nat} (h:Aj b w (X++(Y++V))):Aj b w (Y++(X++V)):=by
 have e1:∀ (i:Nat) (t:Th),(Y++(X++V))[i]?=some t→(X++(Y++V))[if i < Y.length then i + X.length else if i < Y.length + X.length then i - Y.length else i]?=some t:=fun i t ht=>by
  split
  ·rename_i hi
   rw [List.getElem?_append_right (by omega),Nat.add_sub_cancel,List.getElem?_append_left hi]
   rwa [List.getElem?_append_left hi] at ht
  rename_i hi
  rw [List.getElem?_append_right (by omega)] at ht
  split
  ·rename_i hx
   rw [List.getElem?_append_left (by omega)] at ht
   rw [List.getElem?_append_left (by omega)]
   exact ht
  rename_i hx
  rw [List.getElem?_append_right (by omega)] at ht
  rw [List.getElem?_append_right (by omega),List.getElem?_append_right (by omega),show i - X.length - Y.length=i - Y.length - X.length by omega]
  exact ht
 refine ⟨h.base,fun i t ht=>h.all _ t (e1 i t ht),fun i t ht=>h.lo _ t (e1 i t ht),fun i j s t hs ht hij=>h.apart _ _ s t (e1 i s hs) (e1 j t ht) fun hq=>hij ?_⟩
 split at hq <;> split at hq <;> (try split at hq) <;> (try split at hq) <;> omega
theorem Wk.front (K:Wk w0 w M (F++Q) T):Aj w0.heap.size w (F++(M.map Th.ent++(Q++T))):=by
 have h:=K.H
 rw [List.append_assoc] at h
 exact Wk.swap3 h
theorem Wk.unfront (b:Below w0.heap.size w0 w) (h:Aj w0.heap.size w (F++(M.map Th.ent++(Q++T)))):Wk w0 w M (F++Q) T:=⟨b,by
 rw [List.append_assoc]
 exact Wk.swap3 h⟩
theorem Wk.joinE {e:A7} (K:Wk w0 w M L T) (b:Below w.heap.size w w') (h:Aj w.heap.size w' (Th.ent e :: Z)):Wk w0 w' (M++[e]) (L++Z) T:=by
 refine ⟨K.B.trans (b.mono K.B.size),?_⟩
 have h1:=K.H.join b h
 have e1:(M.map Th.ent++(L++T))++(Th.ent e :: Z)=M.map Th.ent++((L++T)++([Th.ent e]++Z)):=by simp
 rw [e1] at h1
 have h2:Aj w0.heap.size w' (M.map Th.ent++((L++([Th.ent e]++Z))++T)):=by
  have:=Wk.swap3 (X:=M.map Th.ent) (Y:=L++T) (V:=[Th.ent e]++Z) h1
  have h3:Aj w0.heap.size w' (L++(T++(M.map Th.ent++([Th.ent e]++Z)))):=by simpa [List.append_assoc] using this
  have h4:=Wk.swap h3
  have h5:Aj w0.heap.size w' (T++((M.map Th.ent++([Th.ent e]++Z))++L)):=by simpa [List.append_assoc] using h4
  have h6:=Wk.swap h5
  have h7:Aj w0.heap.size w' (M.map Th.ent++(([Th.ent e]++Z)++(L++T))):=by simpa [List.append_assoc] using h6
  have h8:=Wk.swap3 h7
  have h9:Aj w0.heap.size w' (([Th.ent e]++Z)++((M.map Th.ent++L)++T)):=by simpa [List.append_assoc] using h8
  have h10:=Wk.swap3 h9
  simpa [List.append_assoc] using h10
 have h3:Aj w0.heap.size w' ((M.map Th.ent++[Th.ent e])++((L++Z)++T)):=by
  have a1:Aj w0.heap.size w' (M.map Th.ent++(L++([Th.ent e]++(Z++T)))):=by simpa [List.append_assoc] using h2
  have a2:=Wk.swap a1
  have a3:Aj w0.heap.size w' (L++([Th.ent e]++((Z++T)++M.map Th.ent))):=by simpa [List.append_assoc] using a2
  have a4:=Wk.swap3 a3
  have a5:Aj w0.heap.size w' (([Th.ent e]++(L++(Z++T)))++M.map Th.ent):=by simpa [List.append_assoc] using a4
  have a6:=Wk.swap a5
  simpa [List.append_assoc] using a6
 simpa using h3
theorem Wk.addNil {α:Type} (K:Wk w0 w M L T) (U:TypeId) (n:Nat) (rel:α→List Value→Prop):Wk w0 w M (L++[Th.row U n rel none 0 []]) T:=
 K.join (Below.refl _ _) ((Aj.nil (Nat.le_refl _)).addNil U n rel)
theorem Wk.entRows {α:Type} (K:Wk w0 w M L T) (j:Nat) {g:Nat} {U:TypeId} {n:Nat} {cs:List Value} (rel:α→List Value→Prop) (l:List α) (rs:List (List Value)) (hr:ET rel l rs) (hc:rs.flatten=cs) (hl:cs.length=l.length * n) (hm:l.length≤1000000) (hi:M[j]?=some ⟨g,0,cs,U,true⟩) :
  Wk w0 w (M.eraseIdx j) (L++[Th.row U n rel (some ⟨g,0,none⟩) l.length l]) T:=by
 have hj:j < M.length:=(List.getElem?_eq_some_iff.1 hi).1
 have h1:=K.H.entRows j rel l rs hr hc hl hm (by rw [List.getElem?_append_left (by rw [List.length_map]; exact hj),List.getElem?_map,hi]; rfl)
 have h2:((M.map Th.ent++(L++T)).set j (Th.row U n rel (some ⟨g,0,none⟩) l.length l))=(M.map Th.ent).set j (Th.row U n rel (some ⟨g,0,none⟩) l.length l)++(L++T):=by rw [List.set_append,if_pos (by rw [List.length_map]; exact hj)]
 rw [h2] at h1
 refine ⟨K.B,?_⟩
 have e1:∀ (i:Nat) (t:Th),((M.eraseIdx j).map Th.ent++((L++[Th.row U n rel (some ⟨g,0,none⟩) l.length l])++T))[i]?=some t→((M.map Th.ent).set j (Th.row U n rel (some ⟨g,0,none⟩) l.length l)++(L++T))[if i < j then i else if i < M.length - 1 + L.length then i + 1 else if i=M.length - 1 + L.length then j else i]?=some t:=fun i t ht=>by
  have hlen:(M.eraseIdx j).length=M.length - 1:=by rw [List.length_eraseIdx,if_pos hj]
  by_cases h3:i < M.length - 1
  ·rw [List.getElem?_append_left (by rw [List.length_map,hlen]; exact h3),List.getElem?_map,List.getElem?_eraseIdx] at ht
   by_cases h4:i < j
   ·rw [if_pos h4] at ht ⊢
    rw [List.getElem?_append_left (by rw [List.length_set,List.length_map]; omega),List.getElem?_set,if_neg (by omega),List.getElem?_map]
    exact ht
   rw [if_neg h4] at ht ⊢
   rw [if_pos (by omega),List.getElem?_append_left (by rw [List.length_set,List.length_map]; omega),List.getElem?_set,if_neg (by omega),List.getElem?_map]
   exact ht
  rw [List.getElem?_append_right (by rw [List.length_map,hlen]; omega),List.length_map,hlen] at ht
  rw [if_neg (by omega)]
  by_cases h5:i < M.length - 1 + L.length
  ·rw [if_pos h5,List.getElem?_append_right (by rw [List.length_set,List.length_map]; omega),List.length_set,List.length_map,List.getElem?_append_left (by omega)]
   rw [List.append_assoc,List.getElem?_append_left (by omega)] at ht
   rw [show i + 1 - M.length=i - (M.length - 1) by omega]
   exact ht
  rw [if_neg h5]
  rw [List.append_assoc,List.getElem?_append_right (by omega)] at ht
  by_cases h6:i=M.length - 1 + L.length
  ·rw [if_pos h6,List.getElem?_append_left (by rw [List.length_set,List.length_map]; exact hj),List.getElem?_set,if_pos rfl,if_pos (by rw [List.length_map]; exact hj)]
   rw [List.getElem?_append_left (by simp; omega),show i - (M.length - 1) - L.length=0 by omega] at ht
   exact ht
  rw [if_neg h6,List.getElem?_append_right (by rw [List.length_set,List.length_map]; omega),List.length_set,List.length_map,List.getElem?_append_right (by omega)]
  rw [List.getElem?_append_right (by simp; omega),List.length_singleton] at ht
  rw [show i - M.length - L.length=i - (M.length - 1) - L.length - 1 by omega]
  exact ht
 refine ⟨h1.base,fun i t ht=>h1.all _ t (e1 i t ht),fun i t ht=>h1.lo _ t (e1 i t ht),fun i k s t hs ht hik=>h1.apart _ _ s t (e1 i s hs) (e1 k t ht) fun hq=>hik ?_⟩
 split at hq <;> split at hq <;> (try split at hq) <;> (try split at hq) <;> (try split at hq) <;> (try split at hq) <;> omega
theorem Wk.entRow {α:Type} (K:Wk w0 w M L T) (j:Nat) {g:Nat} {U:TypeId} {n:Nat} (rel:α→List Value→Prop) (hi:M[j]?=some ⟨g,0,[],U,true⟩):Wk w0 w (M.eraseIdx j) (L++[Th.row U n rel (some ⟨g,0,none⟩) 0 ([]:List α)]) T:=
 K.entRows j rel [] [] trivial rfl (by simp) (by simp) hi
end
section
variable {P:Program} {f:FuncId} {R:Ending→World→Prop} {n:Nat} {todo:List Item} {E:Nat→Value} {w0 w w':World} {M:List A7} {L T:List Th}
theorem DN {v:Value} (hx:(execOp (A8 n E) (CL todo)).run P w=.ok (.value v) w') (h:At P f R (AC todo) (Fr n (Aw E (CL todo).dst v)) w') (hc:Hx n E todo=some (CL todo):=by kernel_rfl):At P f R todo (Fr n E) w:=Rh (CL todo) hc hx h
theorem N6 (g:FuncId) (args:List Value) {Q:Ending→World→Prop} (h:Calls P g args.toArray w Q) (hk:∀ e w',Q e w'→∃ v,e=.returned v∧At P f R (AC todo) (Fr n (Aw E (((IY n E todo).map (·.2.2)).getD none) v)) w') (hc:(IY n E todo).map (fun c=>(c.1,c.2.1))=some (g,args):=by kernel_rfl) (hg:DX P g=true:=by kernel_rfl):At P f R todo (Fr n E) w:=by
 cases hcc:IY n E todo with
 | none=>rw [hcc] at hc; cases hc
 | some c=>
  obtain ⟨g',xs,dst⟩:=c
  rw [hcc] at hc hk
  simp only [Option.map_some,Option.some.injEq,Prod.mk.injEq] at hc
  obtain ⟨rfl,rfl⟩:=hc
  exact qT g' xs dst hcc hg (h.mono fun e w' hq=>hk e w' hq)
theorem TC (K:Wk w0 w M L T) {g:FuncId} {args:List Value} {v:Value} (h:Calls P g args.toArray w fun e w'=>e=.returned v∧Below w.heap.size w w') (hk:∀ w',Wk w0 w' M L T→At P f R (AC todo) (Fr n (Aw E (((IY n E todo).map (·.2.2)).getD none) v)) w') (hc:(IY n E todo).map (fun c=>(c.1,c.2.1))=some (g,args):=by kernel_rfl) (hg:DX P g=true:=by kernel_rfl):At P f R todo (Fr n E) w:=
 N6 g args h (fun _ w' ⟨he,hb⟩=>⟨v,he,hk w' (K.below hb)⟩) hc hg
theorem AG (t:Bool) (h1:t=true→At P f R (AD todo) (Fr n E) w) (h2:t=false→At P f R (AF todo) (Fr n E) w) (hc:(SG todo).map (A8 n E)=some (.bool t):=by kernel_rfl):At P f R todo (Fr n E) w:=Du t (hc:=hc) h1 h2
theorem AU (l:List (Nat×Value)) (hk:∀ E',At P f R todo (Fr n (BE E' l)) w) (h:l.map (fun p=>E p.1)=l.map (·.2):=by kernel_rfl):At P f R todo (Fr n E) w:=Py l h hk
theorem AS {fn:Func} {c:Code} {args:List Value} (h:At P f R [.code c] (Fr n (fun t=>args.getD t undef)) w) (hf:P.funcs[f]?=some fn:=by kernel_rfl) (hb:fn.body=some c:=by kernel_rfl) (hn:fn.ntmps=n:=by kernel_rfl) (hl:Nat.ble args.length n=true:=by kernel_rfl):Calls P f args.toArray w R:=Ia (hf:=hf) (hb:=hb) (hn:=hn) (hl:=hl) h
theorem Wk.pk (K:Wk w0 w M L T) (iM iL:List Nat) {M':List A7} {L':List Th} (hM:iM.map (M[·]?)=M'.map some:=by kernel_rfl) (hL:iL.map (L[·]?)=L'.map some:=by rfl) (nM:iM.Nodup:=by decide) (nL:iL.Nodup:=by decide):Wk w0 w M' L' T:=K.pick iM iL hM hL nM nL
end
end
end Go.Proofs.YtkjbdagicjbjjaaGreat

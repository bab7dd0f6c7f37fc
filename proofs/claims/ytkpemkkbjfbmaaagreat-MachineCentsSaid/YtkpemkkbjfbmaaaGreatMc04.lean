/- Contracts of functions, part 4. -/
import Derived.Test.YtkpemkkbjfbmaaaGreatMc03
import Derived.Laws.Append
import Derived.OwnWalk
import Derived.Maps.AppendAt
import Derived.Maps.OwnSet
set_option linter.all false
namespace Go.Proofs.YtkpemkkbjfbmaaaGreat
open List
noncomputable section
open Go.RowKit
set_option maxRecDepth 100000
structure Th where
 F:Nat->Prop
 P:World->Prop
 fr:∀w w',P w->w.heap.size<=w'.heap.size->(∀k,F k->k<w.heap.size->w'.heap[k]?=w.heap[k]?)->P w'
theorem FT {w w':World} {e:Ax} (hg:e.good w) (hs:w.heap.size<=w'.heap.size) (hb:w'.heap[e.id]?=w.heap[e.id]?):e.good w':=by
 refine⟨Nat.lt_of_lt_of_le hg.1 hs,?_⟩;have h2:=hg.2
 split at h2
 ·rename_i ho;rw[if_pos ho,hb];exact h2
 rename_i ho
 rw[if_neg ho];exact λj v hv=>(World.cell?_of_block hb).trans (h2 j v hv)
def Th.ent (e:Ax):Th:=⟨(·=e.id),λw=>e.good w,λ_ _ h hs hk=>FT h hs (hk _ rfl h.1)⟩
theorem DC {w:World} {base:Nat} {T:TypeId} {n:Nat} {A:Option Addr} {k c m:Nat} {xs:List Value} (h:w.ownsRow base T n (.slice A k c) m xs) {g:Nat} (hg:(Value.slice A k c).ownBlock=some g):A=some ⟨g,0,none⟩/\g<w.heap.size:=by
 rcases h.2 with⟨h1,_⟩ | ⟨g',cap,cur,h1,hb,hr⟩
 ·cases h1;simp[Value.ownBlock]at hg
 cases h1
 simp[Value.ownBlock]at hg;subst hg;exact⟨rfl,(Array.getElem?_eq_some_iff.1 hr.1).1⟩
def Dh {α:Type} (rel:α->List Value->Prop):List α->List (List Value)->Prop
 | [],[]=>True
 | a::l,r::rs=>rel a r/\Dh rel l rs
 | _,_=>False
theorem GW {α:Type} {rel:α->List Value->Prop}:∀ {l:List α} {rs:List (List Value)},Dh rel l rs->rs.length=l.length
 | [],[],_=>rfl
 | [],_::_,h=>h.elim
 | _::_,[],h=>h.elim
 | _::_,_::_,h=>congrArg (· + 1) (GW h.2)
theorem Np {α:Type} {rel:α->List Value->Prop} {e:α} {r:List Value} (h:rel e r):∀ {l:List α} {rs:List (List Value)},Dh rel l rs->Dh rel (l++[e]) (rs++[r])
 | [],[],_=>⟨h,trivial⟩
 | [],_::_,h=>h.elim
 | _::_,[],h=>h.elim
 | _::_,_::_,k=>⟨k.1,Np h k.2⟩
theorem Pb {α:Type} {rel:α->List Value->Prop} {e:α} {r:List Value} (h:rel e r):∀ {l:List α} {rs:List (List Value)} (i:Nat),Dh rel l rs->Dh rel (l.set i e) (rs.set i r)
 | [],[],_,_=>trivial
 | [],_::_,_,h=>h.elim
 | _::_,[],_,h=>h.elim
 | _::_,_::_,0,k=>⟨h,k.2⟩
 | _::_,_::_,i+1,k=>⟨k.1,Pb h i k.2⟩
theorem JW {α:Type} {f:α->List Value}:∀ {l:List α} {rs:List (List Value)},Dh (λe r=>r=f e) l rs->rs=l.map f
 | [],[],_=>rfl
 | [],_::_,h=>h.elim
 | _::_,[],h=>h.elim
 | _::_,_::_,h=>by rw[h.1,JW h.2];rfl
theorem Jp {α:Type} {rel:α->List Value->Prop} {n:Nat} (hn:∀e r,rel e r->r.length=n):∀ {l:List α} {rs:List (List Value)},Dh rel l rs->∀r∈rs,r.length=n
 | [],[],_,r,hr=>by cases hr
 | [],_::_,h,_,_=>h.elim
 | _::_,[],h,_,_=>h.elim
 | _::_,r'::_,h,r,hr=>by
  rcases mem_cons.1 hr with rfl | hr
  ·exact hn _ _ h.1
  exact Jp hn h.2 r hr
def Th.row {α:Type} (T:TypeId) (n:Nat) (rel:α->List Value->Prop) (A:Option Addr) (c:Nat) (l:List α):Th:=
 ⟨λk=>A=some ⟨k,0,none⟩,λw=>∃rs,Dh rel l rs/\w.ownsRow 0 T n (.slice A l.length c) l.length rs.flatten,λ_ _ ⟨rs,hr,h⟩ _ hk=>⟨rs,hr,Nu h λ_ hg=>hk _ (DC h hg).1 (DC h hg).2⟩⟩
structure AY (b:Nat) (w:World) (L:List Th):Prop where
 base:b<=w.heap.size
 all:∀(i:Nat) (t:Th),L[i]?=some t->t.P w
 lo:∀(i:Nat) (t:Th),L[i]?=some t->∀k,t.F k->b<=k/\k<w.heap.size
 apart:∀(i j:Nat) (s t:Th),L[i]?=some s->L[j]?=some t->i≠j->∀k,s.F k->¬t.F k
section
variable {b:Nat} {w w':World} {L L':List Th}
theorem AY.nil (h:b<=w.heap.size):AY b w []:=⟨h,λi t h=>by simp at h,λi t h=>by simp at h,λi j s t h=>by simp at h⟩
theorem AY.fr (h:AY b w L) (hs:w.heap.size<=w'.heap.size) (hk:∀k,b<=k->k<w.heap.size->w'.heap[k]?=w.heap[k]?):AY b w' L:=
 ⟨Nat.le_trans h.base hs,λi t ht=>t.fr w w' (h.all i t ht) hs λk hf hl=>hk k (h.lo i t ht k hf).1 hl,λi t ht k hf=>⟨(h.lo i t ht k hf).1,Nat.lt_of_lt_of_le (h.lo i t ht k hf).2 hs⟩,h.apart⟩
theorem AY.below (h:AY b w L) (B:Below w.heap.size w w'):AY b w' L:=h.fr B.size λk _ hk=>B.block k hk
theorem AY.goods {M:List Ax} (h:AY b w (M.map Th.ent++L)):∀e∈M,e.good w:=λe he=>by obtain⟨i,hi⟩:=mem_iff_getElem?.1 he;have hl:i<M.length:=(List.getElem?_eq_some_iff.1 hi).1;exact h.all i (Th.ent e) (by rw[getElem?_append_left (by simpa using hl),getElem?_map,hi];rfl)
theorem AY.ids {M:List Ax} (h:AY b w (M.map Th.ent++L)):∀k∈M.map (·.id),b<=k/\k<w.heap.size:=λk hk=>by obtain⟨e,he,rfl⟩:=mem_map.1 hk;obtain⟨i,hi⟩:=mem_iff_getElem?.1 he;have hl:i<M.length:=(List.getElem?_eq_some_iff.1 hi).1;exact h.lo i (Th.ent e) (by rw[getElem?_append_left (by simpa using hl),getElem?_map,hi];rfl) _ rfl
theorem AY.nodup {M:List Ax} (h:AY b w (M.map Th.ent++L)):(M.map (·.id)).Nodup:=by rw[nodup_iff_pairwise_ne,pairwise_iff_getElem];intro i j hi hj hij;rw[length_map]at hi hj;have e1:M[i]?=some M[i]:=getElem?_eq_getElem hi;have e2:M[j]?=some M[j]:=getElem?_eq_getElem hj;have:=h.apart i j (Th.ent M[i]) (Th.ent M[j]) (by rw[getElem?_append_left (by simpa using hi),getElem?_map,e1];rfl) (by rw[getElem?_append_left (by simpa using hj),getElem?_map,e2];rfl) (by omega) M[i].id rfl;rw[getElem_map,getElem_map];exact λe=>this e
theorem AY.lies {M:List Ax} (h:AY b w (M.map Th.ent++L)):En (M.map (·.id)) w.heap.size w ⟨w.heap.size,M,(0,0),[]⟩:=MF w M h.goods h.nodup
theorem AY.keptB {M:List Ax} (h:AY b w (M.map Th.ent++L)) (hK:FN (M.map (·.id)) w.heap.size w w'):Below b w w':=hK.below h.base λk hk=>(h.ids k hk).1
theorem D7 {α:Type} {l r:List α} {i:Nat} {x:α} (h:(l++r)[i]?=some x):l[i]?=some x\/(l.length<=i/\r[i-l.length]?=some x):=by
 by_cases hl:i<l.length
 ·exact .inl (by rwa [getElem?_append_left hl]at h)
 exact .inr ⟨by omega,by rwa [getElem?_append_right (by omega)]at h⟩
theorem xx {α:Type} {l r:List α} {i:Nat} {x:α} (h:l.length<=i) (hr:r[i-l.length]?=some x):(l++r)[i]?=some x:=by rw[getElem?_append_right h];exact hr
theorem MD {α β:Type} {f:α->β} {l:List α} {i:Nat} {y:β} (h:(l.map f)[i]?=some y):∃x,l[i]?=some x/\f x=y:=by rw[getElem?_map]at h;exact Option.map_eq_some_iff.1 h
theorem AY.run {M M':List Ax} {z:Nat} {x:Nat×Nat} {q:List (Nat×Nat)} (h:AY b w (M.map Th.ent++L)) (hL:En (M.map (·.id)) w.heap.size w' ⟨z,M',x,q⟩) (hK:FN (M.map (·.id)) w.heap.size w w') (ho:M'.all (·.own)=true):AY b w' (M'.map Th.ent++L):=by
 have hid:∀e∈M',e.id∈M.map (·.id)\/w.heap.size<=e.id:=λe he=>hL.own e he (all_eq_true.1 ho e he);have hgd:∀e∈M',e.good w':=hL.sat.good;have hX:∀(j:Nat) (t:Th),L[j]?=some t->(M.map Th.ent++L)[M.length+j]?=some t:=λj t ht=>xx (by simp) (by simpa using ht);have hMx:∀k∈M.map (·.id),∃(i:Nat) (e:Ax),M[i]?=some e/\e.id=k:=λk hk=>by obtain⟨e,he,rfl⟩:=mem_map.1 hk;obtain⟨i,hi⟩:=mem_iff_getElem?.1 he;exact⟨i,e,hi,rfl⟩
 have hM:∀(i:Nat) (e:Ax),M[i]?=some e->(M.map Th.ent++L)[i]?=some (Th.ent e):=λi e hi=>by have hl:i<M.length:=(List.getElem?_eq_some_iff.1 hi).1;rw[getElem?_append_left (by simpa using hl),getElem?_map,hi];rfl
 have hoff:∀(j:Nat) (t:Th),L[j]?=some t->∀k,t.F k->k∉M.map (·.id):=λj t ht k hf hm=>by obtain⟨i,e,hi,rfl⟩:=hMx k hm;have hl:i<M.length:=(List.getElem?_eq_some_iff.1 hi).1;exact h.apart i (M.length+j) (Th.ent e) t (hM i e hi) (hX j t ht) (by omega) e.id rfl hf
 have hkk:∀(j:Nat) (t:Th),L[j]?=some t->∀k,t.F k->k<w.heap.size->w'.heap[k]?=w.heap[k]?:=λj t ht k hf hl=>hK.block k hl (hoff j t ht k hf);have hcross:∀(i j:Nat) (e:Ax) (t:Th),M'[i]?=some e->L[j]?=some t->¬t.F e.id:=λi j e t he ht hf=>by
  rcases hid e (mem_of_getElem? he)with hm | hm
  ·exact hoff j t ht _ hf hm
  have:=(h.lo _ t (hX j t ht) _ hf).2;omega
 refine⟨Nat.le_trans h.base hK.size,λi t ht=>?_,λi t ht k hf=>?_,λi j s t hs ht hij k hf=>?_⟩
 ·rcases D7 ht with ht | ⟨_,ht⟩
  ·obtain⟨e,he,rfl⟩:=MD ht;exact hgd e (mem_of_getElem? he)
  exact t.fr w w' (h.all _ t (hX _ t ht)) hK.size (hkk _ t ht)
 ·rcases D7 ht with ht | ⟨_,ht⟩
  ·obtain⟨e,he,rfl⟩:=MD ht;obtain rfl:k=e.id:=hf;refine⟨?_,(hgd e (mem_of_getElem? he)).1⟩;rcases hid e (mem_of_getElem? he)with hm | hm
   ·exact(h.ids _ hm).1
   exact Nat.le_trans h.base hm
  have:=h.lo _ t (hX _ t ht) k hf;exact⟨this.1,Nat.lt_of_lt_of_le this.2 hK.size⟩
 rcases D7 hs with hs | ⟨hi,hs⟩
 ·obtain⟨e,he,rfl⟩:=MD hs;obtain rfl:k=e.id:=hf;rcases D7 ht with ht | ⟨_,ht⟩
  ·obtain⟨e',he',rfl⟩:=MD ht;exact λhk:e.id=e'.id=>hL.sat.apart i j e e' he he' (all_eq_true.1 ho e (mem_of_getElem? he)) hij hk
  exact hcross i _ e t he ht
 rcases D7 ht with ht | ⟨hj,ht⟩
 ·obtain⟨e',he',rfl⟩:=MD ht;exact λhk:k=e'.id=>hcross j _ e' s he' hs (hk ▸ hf)
 simp only[length_map]at hi hj hs ht;exact h.apart _ _ s t (hX _ s hs) (hX _ t ht) (by omega) k hf
theorem AY.pick (h:AY b w L) (is:List Nat) (e:is.map (L[·]?)=L'.map some) (hn:is.Nodup):AY b w L':=by
 have hg:∀(j:Nat) (t:Th),L'[j]?=some t->∃i,is[j]?=some i/\L[i]?=some t:=λj t ht=>by
  have h1:(L'.map some)[j]?=some (some t):=by rw[getElem?_map,ht];rfl
  rw[<-e,getElem?_map]at h1;exact Option.map_eq_some_iff.1 h1
 refine⟨h.base,λj t ht=>?_,λj t ht=>?_,λi j s t hs ht hij=>?_⟩
 ·obtain⟨i,_,hi⟩:=hg j t ht;exact h.all i t hi
 ·obtain⟨i,_,hi⟩:=hg j t ht;exact h.lo i t hi
 obtain⟨p,hp,hp'⟩:=hg i s hs;obtain⟨q,hq,hq'⟩:=hg j t ht;refine h.apart p q s t hp' hq' λhpq=>hij ?_;subst hpq;have hl:i<is.length:=(List.getElem?_eq_some_iff.1 hp).1;exact(getElem?_inj hl hn).1 (hp.trans hq.symm)
theorem AY.join (h:AY b w L) (B:Below w.heap.size w w') (h2:AY w.heap.size w' L'):AY b w' (L++L'):=by
 have h1:=h.below B;have cross:∀(i j:Nat) (s t:Th),L[i]?=some s->L'[j]?=some t->∀k,s.F k->¬t.F k:=λi j s t hs ht k hf hf2=>by have q1:=(h.lo i s hs k hf).2;have q2:=(h2.lo j t ht k hf2).1;omega
 refine⟨h1.base,λi t ht=>?_,λi t ht k hf=>?_,λi j s t hs ht hij k hf=>?_⟩
 ·rcases D7 ht with ht | ⟨_,ht⟩
  ·exact h1.all _ t ht
  exact h2.all _ t ht
 ·rcases D7 ht with ht | ⟨_,ht⟩
  ·exact h1.lo _ t ht k hf
  have:=h2.lo _ t ht k hf;exact⟨Nat.le_trans h.base this.1,this.2⟩
 rcases D7 hs with hs | ⟨hi,hs⟩
 ·rcases D7 ht with ht | ⟨_,ht⟩
  ·exact h.apart i j s t hs ht hij k hf
  exact cross _ _ s t hs ht k hf
 rcases D7 ht with ht | ⟨hj,ht⟩
 ·exact λhf2=>cross _ _ t s ht hs k hf2 hf
 exact h2.apart _ _ s t hs ht (by omega) k hf
theorem AY.set (h:AY b w L) (i:Nat) {s t:Th} (hi:L[i]?=some s) (hs:w.heap.size<=w'.heap.size) (hP:t.P w') (hF:∀k,t.F k->k<w'.heap.size/\(s.F k\/w.heap.size<=k)) (hk:∀k,k<w.heap.size->¬s.F k->w'.heap[k]?=w.heap[k]?):AY b w' (L.set i t):=by
 have hl:i<L.length:=(List.getElem?_eq_some_iff.1 hi).1;have hg:∀(j:Nat) (u:Th),(L.set i t)[j]?=some u->(j=i/\u=t)\/(j≠i/\L[j]?=some u):=λj u hu=>by
  rw[getElem?_set]at hu;by_cases hij:i=j
  ·subst hij;rw[if_pos rfl,if_pos hl]at hu;exact .inl ⟨rfl,(Option.some.inj hu).symm⟩
  rw[if_neg hij]at hu;exact .inr ⟨λe=>hij e.symm,hu⟩
 refine⟨Nat.le_trans h.base hs,λj u hu=>?_,λj u hu k hf=>?_,λj l u v hu hv hjl k hf=>?_⟩
 ·rcases hg j u hu with⟨_,rfl⟩ | ⟨hj,hu⟩
  ·exact hP
  exact u.fr w w' (h.all j u hu) hs λk hf hkl=>hk k hkl λhsf=>h.apart i j s u hi hu (λe=>hj e.symm) k hsf hf
 ·rcases hg j u hu with⟨_,rfl⟩ | ⟨hj,hu⟩
  ·refine⟨?_,(hF k hf).1⟩;rcases(hF k hf).2 with hsf | hge
   ·exact(h.lo i s hi k hsf).1
   exact Nat.le_trans h.base hge
  have:=h.lo j u hu k hf;exact⟨this.1,Nat.lt_of_lt_of_le this.2 hs⟩
 rcases hg j u hu with⟨hj1,rfl⟩ | ⟨hj,hu1⟩
 ·rcases hg l v hv with⟨hl1,_⟩ | ⟨hl2,hv1⟩
  ·exact absurd (hj1.trans hl1.symm) hjl
  intro hf2;rcases(hF k hf).2 with hsf | hge
  ·exact h.apart _ l s v hi hv1 (λe=>hl2 e.symm) k hsf hf2
  have:=(h.lo l v hv1 k hf2).2;omega
 rcases hg l v hv with⟨hl1,rfl⟩ | ⟨hl2,hv1⟩
 ·intro hf2;rcases(hF k hf2).2 with hsf | hge
  ·exact h.apart _ j s u hi hu1 (λe=>hj e.symm) k hsf hf
  have:=(h.lo j u hu1 k hf).2;omega
 exact h.apart j l u v hu1 hv1 hjl k hf
theorem AY.add (h:AY b w L) (t:Th) (hP:t.P w) (hF:∀k,¬t.F k):AY b w (L++[t]):=
 h.join (L':=[t]) (Below.refl _ _) ⟨Nat.le_refl _,λi u hu=>by
  cases i with
  | zero=>obtain rfl:=Option.some.inj hu;exact hP
  | succ i=>simp at hu,λi u hu k hf=>by
  cases i with
  | zero=>obtain rfl:=Option.some.inj hu;exact absurd hf (hF k)
  | succ i=>simp at hu,λi j u v hu hv hij=>by
  cases i with
  | zero=>cases j with
   | zero=>exact absurd rfl hij
   | succ j=>simp at hv
  | succ i=>simp at hu⟩
theorem AY.addNil {α:Type} (h:AY b w L) (T:TypeId) (n:Nat) (rel:α->List Value->Prop):AY b w (L++[Th.row T n rel none 0 []]):=
 h.add _ ⟨[],trivial,World.ownsRow_nil w 0 T n⟩ (λk hk=>nomatch hk)
end
section
variable {b:Nat} {w w':World} {X η X' Y' ζ L:List Th}
theorem AY.pickT (h:AY b w (X++(η++L))) (is:List Nat) (e:is.map ((X++η)[·]?)=(X'++Y').map some) (hn:is.Nodup):AY b w (X'++(Y'++L)):=by
 have hm:∀(i:Nat),i<is.length->∃t,(X'++Y')[i]?=some t:=λi hi=>by have h1:=congrArg length e;rw[length_map,length_map]at h1;exact⟨_,getElem?_eq_getElem (by omega)⟩
 have hb:∀k∈is,k<(X++η).length:=λk hk=>by
  obtain⟨j,hj⟩:=mem_iff_getElem?.1 hk;have h1:(is.map ((X++η)[·]?))[j]?=some ((X++η)[k]?):=by rw[getElem?_map,hj];rfl
  rw[e,getElem?_map]at h1;obtain⟨t,_,ht⟩:=Option.map_eq_some_iff.1 h1;exact(List.getElem?_eq_some_iff.1 ht.symm).1
 have hg:∀k∈is,(X++(η++L))[k]?=(X++η)[k]?:=λk hk=>by rw[<-append_assoc,getElem?_append_left (hb k hk)]
 rw[<-append_assoc];refine h.pick (is++(List.range L.length).map (· + (X++η).length)) ?_ ?_
 ·rw[map_append,map_append,<-e];congr 1
  ·exact map_congr_left hg
  refine ext_getElem? λj=>?_;rw[getElem?_map,getElem?_map,getElem?_map];by_cases hj:j<L.length
  ·rw[Jr,if_pos hj,<-append_assoc,getElem?_eq_getElem hj];simp only[Option.map_some];rw[getElem?_append_right (by omega),Nat.add_sub_cancel,getElem?_eq_getElem hj]
  rw[Jr,if_neg hj,getElem?_eq_none (by omega)];rfl
 rw[nodup_append];refine⟨hn,?_,λa ha c hc hac=>?_⟩
 ·rw[nodup_iff_pairwise_ne,pairwise_map];exact(nodup_iff_pairwise_ne.1 nodup_range).imp (by omega)
 obtain⟨d,_,rfl⟩:=mem_map.1 hc;have:=hb a ha;omega
theorem AY.joinT (h:AY b w (X++(η++L))) (B:Below w.heap.size w w') (h2:AY w.heap.size w' ζ):AY b w' (X++((η++ζ)++L)):=by
 have h1:=h.join B h2;have h3:AY b w' ((X++η)++(L++ζ)):=by simpa[append_assoc]using h1
 have e1:∀(i:Nat) (t:Th),((X++η)++(ζ++L))[i]?=some t->((X++η)++(L++ζ))[if i<(X++η).length then i else if i-(X++η).length<ζ.length then i+L.length else i-ζ.length]?=some t:=λi t ht=>by
  by_cases hi:i<(X++η).length
  ·rw[if_pos hi,getElem?_append_left hi];rwa [getElem?_append_left hi]at ht
  rw[if_neg hi];rw[getElem?_append_right (by omega)]at ht;by_cases hz:i-(X++η).length<ζ.length
  ·rw[if_pos hz,getElem?_append_right (by omega),getElem?_append_right (by omega)];rw[getElem?_append_left hz]at ht;rw[show i+L.length-(X++η).length-L.length=i-(X++η).length by omega];exact ht
  rw[if_neg hz];rw[getElem?_append_right (by omega)]at ht;have hl:=(List.getElem?_eq_some_iff.1 ht).1;rw[getElem?_append_right (by omega),getElem?_append_left (by omega)];rw[show i-ζ.length-(X++η).length=i-(X++η).length-ζ.length by omega];exact ht
 have e2:X++((η++ζ)++L)=(X++η)++(ζ++L):=by simp[append_assoc]
 rw[e2];refine⟨h3.base,λi t ht=>h3.all _ t (e1 i t ht),λi t ht=>h3.lo _ t (e1 i t ht),λi j s t hs ht hij=>h3.apart _ _ s t (e1 i s hs) (e1 j t ht) λhq=>hij ?_⟩;have q1:=(List.getElem?_eq_some_iff.1 hs).1;have q2:=(List.getElem?_eq_some_iff.1 ht).1;simp only[length_append]at q1 q2 hq
 split at hq<;>split at hq<;>(try split at hq)<;>(try split at hq)<;>omega
end
structure Wk (w0 w:World) (M:List Ax) (L T:List Th):Prop where
 B:Below w0.heap.size w0 w
 H:AY w0.heap.size w (M.map Th.ent++(L++T))
section
variable {w0 w w':World} {M M':List Ax} {L L' T ζ:List Th}
theorem Wk.start (w:World):Wk w w [] [] []:=⟨Below.refl _ _,AY.nil (Nat.le_refl _)⟩
theorem Wk.size (K:Wk w0 w M L T):w0.heap.size<=w.heap.size:=K.B.size
theorem Wk.G (K:Wk w0 w M L T):∀e∈M,e.good w:=K.H.goods
theorem Wk.ent (K:Wk w0 w M L T) {e:Ax} (j:Nat) (h:M[j]?=some e):e.good w:=K.G e (mem_of_getElem? h)
theorem Wk.below (K:Wk w0 w M L T) (b:Below w.heap.size w w'):Wk w0 w' M L T:=⟨K.B.trans (b.mono K.B.size),K.H.below b⟩
theorem Wk.join (K:Wk w0 w M L T) (b:Below w.heap.size w w') (h:AY w.heap.size w' ζ):Wk w0 w' M (L++ζ) T:=⟨K.B.trans (b.mono K.B.size),K.H.joinT b h⟩
theorem Wk.add (K:Wk w0 w M L T) (b:Below w0.heap.size w w') (h:AY w0.heap.size w' ((M.map Th.ent++(L++T))++ζ)):Wk w0 w' M (L++ζ) T:=by
 refine⟨K.B.trans b,?_⟩;have e1:∀(i:Nat) (t:Th),(M.map Th.ent++((L++ζ)++T))[i]?=some t->((M.map Th.ent++(L++T))++ζ)[if i<(M.map Th.ent++L).length then i else if i-(M.map Th.ent++L).length<ζ.length then i+T.length else i-ζ.length]?=some t:=λi t ht=>by
  rw[<-append_assoc,<-append_assoc]at ht;rw[<-append_assoc];by_cases hi:i<(M.map Th.ent++L).length
  ·rw[if_pos hi,append_assoc,getElem?_append_left hi];rwa [append_assoc,getElem?_append_left hi]at ht
  rw[if_neg hi];rw[append_assoc,getElem?_append_right (by omega)]at ht;by_cases hz:i-(M.map Th.ent++L).length<ζ.length
  ·rw[if_pos hz,append_assoc,getElem?_append_right (by omega),getElem?_append_right (by omega)];rw[getElem?_append_left hz]at ht;rw[show i+T.length-(M.map Th.ent++L).length-T.length=i-(M.map Th.ent++L).length by omega];exact ht
  rw[if_neg hz];rw[getElem?_append_right (by omega)]at ht;have hl:=(List.getElem?_eq_some_iff.1 ht).1;rw[append_assoc,getElem?_append_right (by omega),getElem?_append_left (by omega)];rw[show i-ζ.length-(M.map Th.ent++L).length=i-(M.map Th.ent++L).length-ζ.length by omega];exact ht
 refine⟨h.base,λi t ht=>h.all _ t (e1 i t ht),λi t ht=>h.lo _ t (e1 i t ht),λi j s t hs ht hij=>h.apart _ _ s t (e1 i s hs) (e1 j t ht) λhq=>hij ?_⟩;have q1:=(List.getElem?_eq_some_iff.1 hs).1;have q2:=(List.getElem?_eq_some_iff.1 ht).1;simp only[length_append]at q1 q2 hq
 split at hq<;>split at hq<;>(try split at hq)<;>(try split at hq)<;>omega
def Wk.ix (_:Wk w0 w M L T) (j:Nat):Nat:=M.length+j
theorem Wk.at (K:Wk w0 w M L T) (j:Nat) {t:Th} (h:L[j]?=some t):(M.map Th.ent++(L++T))[K.ix j]?=some t:=by unfold Wk.ix;rw[getElem?_append_right (by simp),length_map,Nat.add_sub_cancel_left,getElem?_append_left (List.getElem?_eq_some_iff.1 h).1];exact h
theorem Wk.put (K:Wk w0 w M L T) (j:Nat) (hj:j<L.length) {t:Th} (b:Below w0.heap.size w w') (h:AY w0.heap.size w' ((M.map Th.ent++(L++T)).set (K.ix j) t)):Wk w0 w' M (L.set j t) T:=by refine⟨K.B.trans b,?_⟩;unfold Wk.ix at h;rw[set_append,if_neg (by simp),length_map,Nat.add_sub_cancel_left,set_append,if_pos hj]at h;exact h
theorem Wk.pick (K:Wk w0 w M L T) (iM iL:List Nat) (hM:iM.map (M[·]?)=M'.map some) (hL:iL.map (L[·]?)=L'.map some) (nM:iM.Nodup) (nL:iL.Nodup):Wk w0 w M' L' T:=by
 refine⟨K.B,K.H.pickT (iM++iL.map (· + M.length)) ?_ ?_⟩
 ·have hl:∀k∈iM,k<M.length:=λk hk=>by
   have h1:M[k]?∈M'.map some:=by rw[<-hM];exact mem_map.2 ⟨k,hk,rfl⟩
   obtain⟨x,_,hx⟩:=mem_map.1 h1;exact(List.getElem?_eq_some_iff.1 hx.symm).1
  rw[map_append,map_append];congr 1
  ·rw[show(M'.map Th.ent).map some=(M'.map some).map (Option.map Th.ent) by rw[map_map,map_map];rfl,<-hM,map_map];refine map_congr_left λk hk=>?_;show(M.map Th.ent++L)[k]?=Option.map Th.ent M[k]?;rw[getElem?_append_left (by rw[length_map];exact hl k hk),getElem?_map]
  rw[<-hL,map_map];refine map_congr_left λk hk=>?_;show(M.map Th.ent++L)[k+M.length]?=L[k]?;rw[getElem?_append_right (by simp),length_map,Nat.add_sub_cancel]
 have hl:∀k∈iM,k<M.length:=λk hk=>by
  have h1:M[k]?∈M'.map some:=by rw[<-hM];exact mem_map.2 ⟨k,hk,rfl⟩
  obtain⟨x,_,hx⟩:=mem_map.1 h1;exact(List.getElem?_eq_some_iff.1 hx.symm).1
 rw[nodup_append];refine⟨nM,?_,λa ha c hc hac=>?_⟩
 ·rw[nodup_iff_pairwise_ne,pairwise_map];exact(nodup_iff_pairwise_ne.1 nL).imp (by omega)
 obtain⟨d,_,rfl⟩:=mem_map.1 hc;have:=hl a ha;omega
theorem Wk.own (K:Wk w0 w M L T) (iL:List Nat) (hL:iL.map (L[·]?)=L'.map some) (nL:iL.Nodup):AY w0.heap.size w (L'++T):=(K.pick (M':=[]) [] iL rfl hL nodup_nil nL).H
end
def BI (P:Program) (n m:Nat) (todo:List Item) (E:Nat->Value) (w:World) (M:List Ax) (hints:List (Nat×Nat)):St:=IL P n m ⟨todo,E,⟨w.heap.size,M,(0,0),[]⟩,hints⟩
def BQ (P:Program) (n m:Nat) (H:List (Tmp×Nat)) (todo:List Item) (E:Nat->Value) (w:World) (M:List Ax):St:=NF P H n m ⟨todo,E,⟨w.heap.size,M,(0,0),[]⟩,[]⟩
def Gm (p:Op->Bool):Nat->List Item->Nat
 | 0,_=>0
 | m+1,t=>match Hd p t with
  | true=>0
  | false=>match OV t with
   | some t'=>Gm p m t'+1
   | none=>0
def JS (q:Nat):Nat->List Item->Nat
 | 0,_=>0
 | m+1,t=>match Gs q t with
  | true=>0
  | false=>match OV t with
   | some t'=>JS q m t'+1
   | none=>0
section
variable {P:Program} {f:FuncId} {R:Ending->World->Prop} {n:Nat} {todo:List Item} {E:Nat->Value} {w0 w:World} {M:List Ax} {L T:List Th}
theorem Jx (m:Nat) (td':List Item) {M':List Ax} (K:Wk w0 w M L T) (hints:List (Nat×Nat)) (he:((BI P n m todo E w M hints).todo,(BI P n m todo E w M hints).ms.eqs.map Prod.fst,(BI P n m todo E w M hints).ms.mem,M'.all (·.own))=(td',(BI P n m todo E w M hints).ms.eqs.map Prod.snd,M',true))
  (hk:∀w',Wk w0 w' M' L T->At P f R td' (Fr n (BI P n m todo E w M hints).env) w'):At P f R todo (Fr n E) w:=by simp only[Prod.mk.injEq]at he;obtain⟨h1,h2,h3,h4⟩:=he;refine YQ m ⟨todo,E,⟨w.heap.size,M,(0,0),[]⟩,hints⟩ K.H.lies h2 λw' hL hK=>?_;have hr:=K.H.run (M':=(BI P n m todo E w M hints).ms.mem) hL hK (by rw[h3];exact h4);rw[h3]at hr;have:=hk w' ⟨K.B.trans (K.H.keptB hK),hr⟩;rw[<-h1]at this;exact this
theorem AC (td':List Item) (K:Wk w0 w M L T) (hints:List (Nat×Nat)) (hk:∀w',Wk w0 w' M L T->At P f R td' (Fr n (BI P n 60 todo E w M hints).env) w') (he:((BI P n 60 todo E w M hints).todo,(BI P n 60 todo E w M hints).ms.eqs.map Prod.fst,(BI P n 60 todo E w M hints).ms.mem,M.all (·.own))=(td',(BI P n 60 todo E w M hints).ms.eqs.map Prod.snd,M,true):=by kernel_rfl):At P f R todo (Fr n E) w:=Jx 60 td' K hints he hk
theorem An (td':List Item) (M':List Ax) (K:Wk w0 w M L T) (hints:List (Nat×Nat)) (hk:∀w',Wk w0 w' M' L T->At P f R td' (Fr n (BI P n 60 todo E w M hints).env) w') (he:((BI P n 60 todo E w M hints).todo,(BI P n 60 todo E w M hints).ms.eqs.map Prod.fst,(BI P n 60 todo E w M hints).ms.mem,M'.all (·.own))=(td',(BI P n 60 todo E w M hints).ms.eqs.map Prod.snd,M',true):=by kernel_rfl):At P f R todo (Fr n E) w:=Jx 60 td' K hints he hk
theorem Ao (p:Op->Bool) (td':List Item) (K:Wk w0 w M L T) (hints:List (Nat×Nat)) (hk:∀w',Wk w0 w' M L T->At P f R td' (Fr n (BI P n (Gm p 90 todo) todo E w M hints).env) w') (he:((BI P n (Gm p 90 todo) todo E w M hints).todo,(BI P n (Gm p 90 todo) todo E w M hints).ms.eqs.map Prod.fst,(BI P n (Gm p 90 todo) todo E w M hints).ms.mem,M.all (·.own))=(td',(BI P n (Gm p 90 todo) todo E w M hints).ms.eqs.map Prod.snd,M,true):=by kernel_rfl):At P f R todo (Fr n E) w:=Jx (Gm p 90 todo) td' K hints he hk
theorem Bn (p:Op->Bool) (td':List Item) (M':List Ax) (K:Wk w0 w M L T) (hints:List (Nat×Nat)) (hk:∀w',Wk w0 w' M' L T->At P f R td' (Fr n (BI P n (Gm p 90 todo) todo E w M hints).env) w') (he:((BI P n (Gm p 90 todo) todo E w M hints).todo,(BI P n (Gm p 90 todo) todo E w M hints).ms.eqs.map Prod.fst,(BI P n (Gm p 90 todo) todo E w M hints).ms.mem,M'.all (·.own))=(td',(BI P n (Gm p 90 todo) todo E w M hints).ms.eqs.map Prod.snd,M',true):=by kernel_rfl):At P f R todo (Fr n E) w:=Jx (Gm p 90 todo) td' K hints he hk
theorem Al (q:Nat) (td':List Item) (K:Wk w0 w M L T) (hints:List (Nat×Nat)) (hk:∀w',Wk w0 w' M L T->At P f R td' (Fr n (BI P n (JS q 90 todo) todo E w M hints).env) w') (he:((BI P n (JS q 90 todo) todo E w M hints).todo,(BI P n (JS q 90 todo) todo E w M hints).ms.eqs.map Prod.fst,(BI P n (JS q 90 todo) todo E w M hints).ms.mem,M.all (·.own))=(td',(BI P n (JS q 90 todo) todo E w M hints).ms.eqs.map Prod.snd,M,true):=by kernel_rfl):At P f R todo (Fr n E) w:=Jx (JS q 90 todo) td' K hints he hk
theorem Bg (q:Nat) (td':List Item) (M':List Ax) (K:Wk w0 w M L T) (hints:List (Nat×Nat)) (hk:∀w',Wk w0 w' M' L T->At P f R td' (Fr n (BI P n (JS q 90 todo) todo E w M hints).env) w') (he:((BI P n (JS q 90 todo) todo E w M hints).todo,(BI P n (JS q 90 todo) todo E w M hints).ms.eqs.map Prod.fst,(BI P n (JS q 90 todo) todo E w M hints).ms.mem,M'.all (·.own))=(td',(BI P n (JS q 90 todo) todo E w M hints).ms.eqs.map Prod.snd,M',true):=by kernel_rfl):At P f R todo (Fr n E) w:=Jx (JS q 90 todo) td' K hints he hk
theorem ay (m:Nat) (td':List Item) (K:Wk w0 w M L T) (hints:List (Nat×Nat)) (he:((BI P n m todo E w M hints).todo,(BI P n m todo E w M hints).ms.eqs.map Prod.fst,(BI P n m todo E w M hints).ms.mem.all (·.own))=(td',(BI P n m todo E w M hints).ms.eqs.map Prod.snd,true))
  (hk:∀w',Wk w0 w' (BI P n m todo E w M hints).ms.mem L T->At P f R td' (Fr n (BI P n m todo E w M hints).env) w'):At P f R todo (Fr n E) w:=by simp only[Prod.mk.injEq]at he;exact Jx m td' K hints (by simp only[Prod.mk.injEq];exact⟨he.1,he.2.1,trivial,he.2.2⟩) hk
theorem Ar (td':List Item) (K:Wk w0 w M L T) (hints:List (Nat×Nat)) (hk:∀w',Wk w0 w' (BI P n 60 todo E w M hints).ms.mem L T->At P f R td' (Fr n (BI P n 60 todo E w M hints).env) w') (he:((BI P n 60 todo E w M hints).todo,(BI P n 60 todo E w M hints).ms.eqs.map Prod.fst,(BI P n 60 todo E w M hints).ms.mem.all (·.own))=(td',(BI P n 60 todo E w M hints).ms.eqs.map Prod.snd,true):=by kernel_rfl):At P f R todo (Fr n E) w:=ay 60 td' K hints he hk
theorem ax (p:Op->Bool) (td':List Item) (K:Wk w0 w M L T) (hints:List (Nat×Nat)) (hk:∀w',Wk w0 w' (BI P n (Gm p 90 todo) todo E w M hints).ms.mem L T->At P f R td' (Fr n (BI P n (Gm p 90 todo) todo E w M hints).env) w') (he:((BI P n (Gm p 90 todo) todo E w M hints).todo,(BI P n (Gm p 90 todo) todo E w M hints).ms.eqs.map Prod.fst,(BI P n (Gm p 90 todo) todo E w M hints).ms.mem.all (·.own))=(td',(BI P n (Gm p 90 todo) todo E w M hints).ms.eqs.map Prod.snd,true):=by kernel_rfl):At P f R todo (Fr n E) w:=ay (Gm p 90 todo) td' K hints he hk
theorem Gr (m:Nat) (H:List (Tmp×Nat)) (td':List Item) (M':List Ax) (K:Wk w0 w M L T) (hk:∀w',Wk w0 w' M' L T->At P f R td' (Fr n (BQ P n m H todo E w M).env) w') (he:((BQ P n m H todo E w M).todo,(BQ P n m H todo E w M).ms.eqs.map Prod.fst,(BQ P n m H todo E w M).ms.mem,M'.all (·.own))=(td',(BQ P n m H todo E w M).ms.eqs.map Prod.snd,M',true):=by kernel_rfl):At P f R todo (Fr n E) w:=by
 simp only[Prod.mk.injEq]at he;obtain⟨h1,h2,h3,h4⟩:=he;refine R7 (H:=H) m ⟨todo,E,⟨w.heap.size,M,(0,0),[]⟩,[]⟩ w K.H.lies (λp hp=>?_) λw' hL hK=>?_
 ·obtain⟨i,hi⟩:=mem_iff_getElem?.1 hp;have g1:((BQ P n m H todo E w M).ms.eqs.map Prod.fst)[i]?=some p.1:=by unfold BQ;rw[getElem?_map,hi];rfl
  have g2:((BQ P n m H todo E w M).ms.eqs.map Prod.snd)[i]?=some p.2:=by unfold BQ;rw[getElem?_map,hi];rfl
  rw[h2,g2]at g1;exact(Option.some.inj g1).symm
 have hr:=K.H.run (M':=(BQ P n m H todo E w M).ms.mem) hL hK (by rw[h3];exact h4);rw[h3]at hr;have:=hk w' ⟨K.B.trans (K.H.keptB hK),hr⟩;rw[<-h1]at this;exact this
theorem CZ (m:Nat) (H:List (Tmp×Nat)) (td':List Item) (K:Wk w0 w M L T) (hk:∀w',Wk w0 w' (BQ P n m H todo E w M).ms.mem L T->At P f R td' (Fr n (BQ P n m H todo E w M).env) w') (he:((BQ P n m H todo E w M).todo,(BQ P n m H todo E w M).ms.eqs.map Prod.fst,(BQ P n m H todo E w M).ms.mem.all (·.own))=(td',(BQ P n m H todo E w M).ms.eqs.map Prod.snd,true):=by kernel_rfl):At P f R todo (Fr n E) w:=by simp only[Prod.mk.injEq]at he;exact Gr m H td' _ K hk (by simp only[Prod.mk.injEq];exact⟨he.1,he.2.1,trivial,he.2.2⟩)
def BO (n:Nat) (E:Nat->Value) (todo:List Item):Option Tmp:=match Ja n E todo with
 | some c=>c.2.2
 | none=>none
theorem BL {g:FuncId} {args:List Value} {Q:Ending->World->Prop} (h:Calls P g args.toArray w Q) (hk:∀e w',Q e w'->∃v,e=.returned v/\At P f R (AD todo) (Fr n (A8 E (BO n E todo) v)) w') (hc:(Ja n E todo).map (λc=>(c.1,c.2.1.map (BK n E)))=some (g,args):=by kernel_rfl) (hg:Dr P g=true:=by kernel_rfl):At P f R todo (Fr n E) w:=by
 cases hcc:Ja n E todo with
 | none=>rw[hcc]at hc;cases hc
 | some c=>
  obtain⟨g',xs,dst⟩:=c;rw[hcc]at hc;simp only[Option.map_some,Option.some.injEq,Prod.mk.injEq]at hc;obtain⟨rfl,ha⟩:=hc;refine MP g' xs dst args hcc ha hg (h.mono λe w' hq=>?_);have:=hk e w' hq;unfold BO at this;rw[hcc]at this;exact this
theorem AW (K:Wk w0 w M L T) {g:FuncId} {args:List Value} {v:Value} (h:Calls P g args.toArray w λe w'=>e=.returned v/\Below w.heap.size w w') (hk:∀w',Wk w0 w' M L T->At P f R (AD todo) (Fr n (A8 E (BO n E todo) v)) w') (hc:(Ja n E todo).map (λc=>(c.1,c.2.1.map (BK n E)))=some (g,args):=by kernel_rfl) (hg:Dr P g=true:=by kernel_rfl):At P f R todo (Fr n E) w:=
 BL h (λ_ w' ⟨he,hb⟩=>⟨v,he,hk w' (K.below hb)⟩) hc hg
def Bi (P:Program) (n:Nat) (ops:Array Oper) (ξ:Jh) (E:Nat->Value):GS:=(Lk P n ops ξ (List.range ops.size) ⟨E,[]⟩).getD ⟨E,[]⟩
def Ct (n:Nat) (s:GS):List (Nat×Value):=((List.range n).filter λt=>(Ho s.cx t).isEmpty).map λt=>(t,s.G t)
def Ak (todo:List Item):Array Oper:=(Da todo).getD #[]
theorem Ap (K:Wk w0 w M L T) {mem:List Ax} (hints:List (Nat×Nat×Nat)) (specs:List Sp) (hM:∀e∈mem,e.good w) (hS:∀sp∈specs,F1 P n (Below w.heap.size w) (Ak todo) sp) (hk:∀w' E',Wk w0 w' M L T->At P f R (AO todo) (Fr n (BN E' (Ct n (Bi P n (Ak todo) ⟨mem,hints,specs⟩ E)))) w') (ht:(Da todo).isSome=true:=by kernel_rfl) (hB:Region.lexB .any (Ak todo)=true:=by kernel_rfl) (hm:P.follows .mixedOrders=true:=by kernel_rfl) (hp:∀X,(Gp P n (Ak todo) ⟨mem,hints,specs⟩ X (List.range (Ak todo).size) ⟨E,[]⟩).map Prod.fst=(Gp P n (Ak todo) ⟨mem,hints,specs⟩ X (List.range (Ak todo).size) ⟨E,[]⟩).map Prod.snd:=by intro _;kernel_rfl) (hl:(Lk P n (Ak todo) ⟨mem,hints,specs⟩ (List.range (Ak todo).size) ⟨E,[]⟩).isSome=true:=by kernel_rfl) (hzs:Ll P n (Ak todo) ⟨mem,hints,specs⟩ (List.range (Ak todo).size) ⟨E,[]⟩=[]:=by kernel_rfl):At P f R todo (Fr n E) w:=by
 obtain⟨ops,hops⟩:=Option.isSome_iff_exists.1 ht;have hr:Ak todo=ops:=by unfold Ak;rw[hops];rfl
 obtain⟨s,hs⟩:=Option.isSome_iff_exists.1 hl;have hE:Bi P n (Ak todo) ⟨mem,hints,specs⟩ E=s:=by unfold Bi;rw[hs];rfl
 rw[hE]at hk;rw[hr]at hB hS hp hs hzs;refine Iu ops ⟨mem,hints,specs⟩ (Ct n s) hops hB hm hM hS hp ?_ (λw' E' b=>hk w' E' (K.below b)) hzs;rw[hs];simp only[Option.map_some,Option.some.injEq];refine map_congr_left λp hpm=>?_;unfold Ct at hpm;obtain⟨t,ht2,rfl⟩:=mem_map.1 hpm;have:=(mem_filter.1 ht2).2;simp only[Prod.mk.injEq,true_and];exact isEmpty_iff.1 this
def Me (P:Program) (f:FuncId) (n:Nat) (E:Nat->Value) (m:MS):Option (Value×MS):=match P.funcs[f]? with
 | some fn=>Dp P (Fw fn n E) m
 | none=>none
theorem AN (K:Wk w0 w M L T) (hint:Nat×Nat) (v:Value) (hR:R (.returned v) w) (hr:Ra todo=true:=by kernel_rfl) (hv:(Me P f n E ⟨0,M,hint,[]⟩).map (λr=>(r.1,r.2.eqs.map Prod.fst))=(Me P f n E ⟨0,M,hint,[]⟩).map (λr=>(v,r.2.eqs.map Prod.snd)):=by kernel_rfl) (hs:(Me P f n E ⟨0,M,hint,[]⟩).isSome=true:=by kernel_rfl):At P f R todo (Fr n E) w:=by
 unfold Me at hv hs
 cases hf:P.funcs[f]? with
 | none=>rw[hf]at hs;cases hs
 | some fn=>
  rw[hf]at hv hs;simp only at hv hs;obtain⟨⟨v',m'⟩,hx⟩:=Option.isSome_iff_exists.1 hs;rw[hx]at hv;simp only[Option.map_some,Option.some.injEq,Prod.mk.injEq]at hv;exact oU hr hf ⟨0,M,hint,[]⟩ K.G v (by rw[hx];exact congrArg some hv.1) (by rw[hx];exact congrArg some hv.2) hR
theorem AQ (K:Wk w0 w M L T) (hint:Nat×Nat) (v:Value) {τ:Value} (hV:τ=v) (hr:Ra todo=true:=by kernel_rfl) (hv:(Me P f n E ⟨0,M,hint,[]⟩).map (λr=>(r.1,r.2.eqs.map Prod.fst))=(Me P f n E ⟨0,M,hint,[]⟩).map (λr=>(v,r.2.eqs.map Prod.snd)):=by kernel_rfl) (hs:(Me P f n E ⟨0,M,hint,[]⟩).isSome=true:=by kernel_rfl) :
  At P f (λe w'=>e=.returned τ/\Below w0.heap.size w0 w') todo (Fr n E) w:=AN K hint v ⟨by rw[hV],K.B⟩ hr hv hs
end
theorem AY.rowLt {α:Type} {T:TypeId} {n g c:Nat} {rel:α->List Value->Prop} {b:Nat} {w:World} {L:List Th} {l:List α} (h:AY b w L) (i:Nat) (hi:L[i]?=some (Th.row T n rel (some ⟨g,0,none⟩) c l)):g<w.heap.size:=(h.lo i _ hi g rfl).2
theorem AY.entRows {α:Type} {b:Nat} {w:World} {L:List Th} (h:AY b w L) (i:Nat) {g:Nat} {T:TypeId} {n:Nat} {cs:List Value} (a:α->List Value->Prop) (l:List α) (rs:List (List Value)) (hr:Dh a l rs) (hc:rs.flatten=cs) (hl:cs.length=l.length*n) (hm:l.length<=1000000) (hi:L[i]?=some (Th.ent ⟨g,0,cs,T,true⟩)):AY b w (L.set i (Th.row T n a (θ g) l.length l)):=by
 have hg:Ax.good w ⟨g,0,cs,T,true⟩:=h.all i _ hi;have h2:=hg.2;rw[if_pos rfl]at h2;refine h.set i hi (Nat.le_refl _) ⟨rs,hr,by rw[hc,hl],.inr ⟨g,l.length,cs.toArray,rfl,Nat.zero_le _,?_,Nat.le_refl _,by unfold maxLen;omega,by simpa using hl,by rw[toList_toArray,hc];exact take_of_length_le (by rw[hl];exact Nat.le_refl _)⟩⟩ (λk c=>?_) (λ_ _ _=>rfl)
 ·simpa using h2.1
 obtain rfl:g=k:=by have:=Option.some.inj c;injection this
 exact⟨hg.1,.inl rfl⟩
section
variable {w0 w w':World} {M M':List Ax} {L L' F Q T ζ:List Th}
theorem Wk.own0 (K:Wk w0 w M L []) (iL:List Nat) (hL:iL.map (L[·]?)=L'.map some) (nL:iL.Nodup):AY w0.heap.size w L':=by have h:=K.own iL hL nL;rwa [append_nil]at h
theorem Wk.pickL (K:Wk w0 w M L T) (iL:List Nat) (hL:iL.map (L[·]?)=L'.map some) (nL:iL.Nodup):Wk w0 w M L' T:=by
 refine K.pick (List.range M.length) iL ?_ hL nodup_range nL;refine ext_getElem? λj=>?_;rw[getElem?_map,getElem?_map,Jr];by_cases hj:j<M.length
 ·rw[if_pos hj,getElem?_eq_getElem hj];simp[getElem?_eq_getElem hj]
 rw[if_neg hj,getElem?_eq_none (by omega)];rfl
theorem Wk.swap {X η:List Th} {b:Nat} (h:AY b w (X++η)):AY b w (η++X):=by
 have e1:∀(i:Nat) (t:Th),(η++X)[i]?=some t->(X++η)[if i<η.length then i+X.length else i-η.length]?=some t:=λi t ht=>by
  split
  ·rename_i hi
   rw[getElem?_append_right (by omega),Nat.add_sub_cancel];rwa [getElem?_append_left hi]at ht
  rename_i hi
  rw[getElem?_append_right (by omega)]at ht;rw[getElem?_append_left (List.getElem?_eq_some_iff.1 ht).1];exact ht
 refine⟨h.base,λi t ht=>h.all _ t (e1 i t ht),λi t ht=>h.lo _ t (e1 i t ht),λi j s t hs ht hij=>h.apart _ _ s t (e1 i s hs) (e1 j t ht) λhq=>hij ?_⟩;have q1:=(List.getElem?_eq_some_iff.1 hs).1;have q2:=(List.getElem?_eq_some_iff.1 ht).1;rw[length_append]at q1 q2
 split at hq<;>split at hq<;>omega
theorem Wk.swap3 {X η τ:List Th} {b:Nat} (h:AY b w (X++(η++τ))):AY b w (η++(X++τ)):=by
 have e1:∀(i:Nat) (t:Th),(η++(X++τ))[i]?=some t->(X++(η++τ))[if i<η.length then i+X.length else if i<η.length+X.length then i-η.length else i]?=some t:=λi t ht=>by
  split
  ·rename_i hi
   rw[getElem?_append_right (by omega),Nat.add_sub_cancel,getElem?_append_left hi];rwa [getElem?_append_left hi]at ht
  rename_i hi
  rw[getElem?_append_right (by omega)]at ht
  split
  ·rename_i hx
   rw[getElem?_append_left (by omega)]at ht;rw[getElem?_append_left (by omega)];exact ht
  rename_i hx
  rw[getElem?_append_right (by omega)]at ht;rw[getElem?_append_right (by omega),getElem?_append_right (by omega),show i-X.length-η.length=i-η.length-X.length by omega];exact ht
 refine⟨h.base,λi t ht=>h.all _ t (e1 i t ht),λi t ht=>h.lo _ t (e1 i t ht),λi j s t hs ht hij=>h.apart _ _ s t (e1 i s hs) (e1 j t ht) λhq=>hij ?_⟩
 split at hq<;>split at hq<;>(try split at hq)<;>(try split at hq)<;>omega
theorem Wk.front (K:Wk w0 w M (F++Q) T):AY w0.heap.size w (F++(M.map Th.ent++(Q++T))):=by have h:=K.H;rw[append_assoc]at h;exact Wk.swap3 h
theorem Wk.unfront (b:Below w0.heap.size w0 w) (h:AY w0.heap.size w (F++(M.map Th.ent++(Q++T)))):Wk w0 w M (F++Q) T:=⟨b,by rw[append_assoc];exact Wk.swap3 h⟩
theorem Wk.joinE {e:Ax} (K:Wk w0 w M L T) (b:Below w.heap.size w w') (h:AY w.heap.size w' (Th.ent e::ζ)):Wk w0 w' (M++[e]) (L++ζ) T:=by
 refine⟨K.B.trans (b.mono K.B.size),?_⟩;have h1:=K.H.join b h;have e1:(M.map Th.ent++(L++T))++(Th.ent e::ζ)=M.map Th.ent++((L++T)++([Th.ent e]++ζ)):=by simp
 rw[e1]at h1;have h2:AY w0.heap.size w' (M.map Th.ent++((L++([Th.ent e]++ζ))++T)):=by
  have:=Wk.swap3 (X:=M.map Th.ent) (η:=L++T) (τ:=[Th.ent e]++ζ) h1;have h3:AY w0.heap.size w' (L++(T++(M.map Th.ent++([Th.ent e]++ζ)))):=by simpa[append_assoc]using this
  have h4:=Wk.swap h3;have h5:AY w0.heap.size w' (T++((M.map Th.ent++([Th.ent e]++ζ))++L)):=by simpa[append_assoc]using h4
  have h6:=Wk.swap h5;have h7:AY w0.heap.size w' (M.map Th.ent++(([Th.ent e]++ζ)++(L++T))):=by simpa[append_assoc]using h6
  have h8:=Wk.swap3 h7;have h9:AY w0.heap.size w' (([Th.ent e]++ζ)++((M.map Th.ent++L)++T)):=by simpa[append_assoc]using h8
  have h10:=Wk.swap3 h9;simpa[append_assoc]using h10
 have h3:AY w0.heap.size w' ((M.map Th.ent++[Th.ent e])++((L++ζ)++T)):=by
  have a1:AY w0.heap.size w' (M.map Th.ent++(L++([Th.ent e]++(ζ++T)))):=by simpa[append_assoc]using h2
  have a2:=Wk.swap a1;have a3:AY w0.heap.size w' (L++([Th.ent e]++((ζ++T)++M.map Th.ent))):=by simpa[append_assoc]using a2
  have a4:=Wk.swap3 a3;have a5:AY w0.heap.size w' (([Th.ent e]++(L++(ζ++T)))++M.map Th.ent):=by simpa[append_assoc]using a4
  have a6:=Wk.swap a5;simpa[append_assoc]using a6
 simpa using h3
theorem AY.noTail {X η:List Th} {b:Nat} (h:AY b w (X++(η++[]))):AY b w (X++η):=by rwa [append_nil]at h
theorem AY.withTail {X η:List Th} {b:Nat} (h:AY b w (X++η)):AY b w (X++(η++[])):=by rwa [append_nil]
theorem Wk.addNil {α:Type} (K:Wk w0 w M L T) (ε:TypeId) (n:Nat) (a:α->List Value->Prop):Wk w0 w M (L++[Th.row ε n a none 0 []]) T:=
 K.join (Below.refl _ _) ((AY.nil (Nat.le_refl _)).addNil ε n a)
theorem Wk.entRows {α:Type} (K:Wk w0 w M L T) (j:Nat) {g:Nat} {ε:TypeId} {n:Nat} {cs:List Value} (a:α->List Value->Prop) (l:List α) (rs:List (List Value)) (hr:Dh a l rs) (hc:rs.flatten=cs) (hl:cs.length=l.length*n) (hm:l.length<=1000000) (hi:M[j]?=some ⟨g,0,cs,ε,true⟩) :
  Wk w0 w (M.eraseIdx j) (L++[Th.row ε n a (θ g) l.length l]) T:=by
 have d:j<M.length:=(List.getElem?_eq_some_iff.1 hi).1;have e:=K.H.entRows j a l rs hr hc hl hm (by rw[getElem?_append_left (by rw[length_map];exact d),getElem?_map,hi];rfl);have h2:((M.map Th.ent++(L++T)).set j (Th.row ε n a (θ g) l.length l))=(M.map Th.ent).set j (Th.row ε n a (θ g) l.length l)++(L++T):=by rw[set_append,if_pos (by rw[length_map];exact d)]
 rw[h2]at e;refine⟨K.B,?_⟩;have f:∀(i:Nat) (t:Th),((M.eraseIdx j).map Th.ent++((L++[Th.row ε n a (θ g) l.length l])++T))[i]?=some t->((M.map Th.ent).set j (Th.row ε n a (θ g) l.length l)++(L++T))[if i<j then i else if i<M.length-1+L.length then i+1 else if i=M.length-1+L.length then j else i]?=some t:=λi t ht=>by
  have b:(M.eraseIdx j).length=M.length-1:=by rw[length_eraseIdx,if_pos d]
  by_cases h3:i<M.length-1
  ·rw[getElem?_append_left (by rw[length_map,b];exact h3),getElem?_map,getElem?_eraseIdx]at ht;by_cases h4:i<j
   ·rw[if_pos h4]at ht ⊢;rw[getElem?_append_left (by rw[length_set,length_map];omega),getElem?_set,if_neg (by omega),getElem?_map];exact ht
   rw[if_neg h4]at ht ⊢;rw[if_pos (by omega),getElem?_append_left (by rw[length_set,length_map];omega),getElem?_set,if_neg (by omega),getElem?_map];exact ht
  rw[getElem?_append_right (by rw[length_map,b];omega),length_map,b]at ht;rw[if_neg (by omega)];by_cases h5:i<M.length-1+L.length
  ·rw[if_pos h5,getElem?_append_right (by rw[length_set,length_map];omega),length_set,length_map,getElem?_append_left (by omega)];rw[append_assoc,getElem?_append_left (by omega)]at ht;rw[show i+1-M.length=i-(M.length-1) by omega];exact ht
  rw[if_neg h5];rw[append_assoc,getElem?_append_right (by omega)]at ht;by_cases h6:i=M.length-1+L.length
  ·rw[if_pos h6,getElem?_append_left (by rw[length_set,length_map];exact d),getElem?_set,if_pos rfl,if_pos (by rw[length_map];exact d)];rw[getElem?_append_left (by simp;omega),show i-(M.length-1)-L.length=0 by omega]at ht;exact ht
  rw[if_neg h6,getElem?_append_right (by rw[length_set,length_map];omega),length_set,length_map,getElem?_append_right (by omega)];rw[getElem?_append_right (by simp;omega),length_singleton]at ht;rw[show i-M.length-L.length=i-(M.length-1)-L.length-1 by omega];exact ht
 refine⟨e.base,λi t ht=>e.all _ t (f i t ht),λi t ht=>e.lo _ t (f i t ht),λi k s t hs ht h=>e.apart _ _ s t (f i s hs) (f k t ht) λc=>h ?_⟩
 split at c<;>split at c<;>(try split at c)<;>(try split at c)<;>(try split at c)<;>(try split at c)<;>omega
theorem Wk.entRow {α:Type} (K:Wk w0 w M L T) (j:Nat) {g:Nat} {ε:TypeId} {n:Nat} (a:α->List Value->Prop) (hi:M[j]?=some ⟨g,0,[],ε,true⟩):Wk w0 w (M.eraseIdx j) (L++[Th.row ε n a (θ g) 0 ([]:List α)]) T:=
 K.entRows j a [] [] trivial rfl (by simp) (by simp) hi
end
section
variable {P:Program} {f:FuncId} {R:Ending->World->Prop} {n:Nat} {todo:List Item} {E:Nat->Value} {w0 w w':World} {M:List Ax} {L T:List Th}
theorem EW {v:Value} (hx:(execOp (BK n E) (Cr todo)).run P w=.ok (.value v) w') (h:At P f R (AD todo) (Fr n (A8 E (Cr todo).dst v)) w') (hc:GP n E todo=some (Cr todo):=by kernel_rfl):At P f R todo (Fr n E) w:=Om (Cr todo) hc hx h
theorem OK (g:FuncId) (args:List Value) {Q:Ending->World->Prop} (h:Calls P g args.toArray w Q) (hk:∀e w',Q e w'->∃v,e=.returned v/\At P f R (AD todo) (Fr n (A8 E (((Ir n E todo).map (·.2.2)).getD none) v)) w') (hc:(Ir n E todo).map (λc=>(c.1,c.2.1))=some (g,args):=by kernel_rfl) (hg:Dr P g=true:=by kernel_rfl):At P f R todo (Fr n E) w:=by
 cases hcc:Ir n E todo with
 | none=>rw[hcc]at hc;cases hc
 | some c=>
  obtain⟨g',xs,dst⟩:=c;rw[hcc]at hc hk;simp only[Option.map_some,Option.some.injEq,Prod.mk.injEq]at hc;obtain⟨rfl,rfl⟩:=hc;exact qy g' xs dst hcc hg (h.mono λe w' hq=>hk e w' hq)
theorem TX (K:Wk w0 w M L T) {g:FuncId} {args:List Value} {v:Value} (h:Calls P g args.toArray w λe w'=>e=.returned v/\Below w.heap.size w w') (hk:∀w',Wk w0 w' M L T->At P f R (AD todo) (Fr n (A8 E (((Ir n E todo).map (·.2.2)).getD none) v)) w') (hc:(Ir n E todo).map (λc=>(c.1,c.2.1))=some (g,args):=by kernel_rfl) (hg:Dr P g=true:=by kernel_rfl):At P f R todo (Fr n E) w:=
 OK g args h (λ_ w' ⟨he,hb⟩=>⟨v,he,hk w' (K.below hb)⟩) hc hg
theorem AH (t:Bool) (h1:t=true->At P f R (AE todo) (Fr n E) w) (h2:t=false->At P f R (AG todo) (Fr n E) w) (hc:(SV todo).map (BK n E)=some (.bool t):=by kernel_rfl):At P f R todo (Fr n E) w:=D9 t (hc:=hc) h1 h2
theorem AX (l:List (Nat×Value)) (a:∀E',At P f R todo (Fr n (BN E' l)) w) (h:l.map (λp=>E p.1)=l.map (·.2):=by kernel_rfl):At P f R todo (Fr n E) w:=HE l h a
theorem AS {fn:Func} {c:Code} {args:List Value} (h:At P f R [.code c] (Fr n (λt=>args.getD t undef)) w) (hf:P.funcs[f]?=some fn:=by kernel_rfl) (hb:fn.body=some c:=by kernel_rfl) (hn:fn.ntmps=n:=by kernel_rfl) (hl:Nat.ble args.length n=true:=by kernel_rfl):Calls P f args.toArray w R:=Is (hf:=hf) (hb:=hb) (hn:=hn) (hl:=hl) h
theorem Wk.pk (K:Wk w0 w M L T) (a b:List Nat) {M':List Ax} {L':List Th} (c:a.map (M[·]?)=M'.map some:=by kernel_rfl) (hL:b.map (L[·]?)=L'.map some:=by rfl) (nM:a.Nodup:=by decide) (nL:b.Nodup:=by decide):Wk w0 w M' L' T:=K.pick a b c hL nM nL
end
end
end Go.Proofs.YtkpemkkbjfbmaaaGreat

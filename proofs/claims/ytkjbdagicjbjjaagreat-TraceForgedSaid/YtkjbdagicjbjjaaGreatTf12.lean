/-
  Part 12 of a proof: contracts of functions.
-/
import Derived.Test.YtkjbdagicjbjjaaGreatTf08
import Derived.Laws.Append
import Derived.OwnWalk
set_option linter.all false
namespace Go.Proofs.YtkjbdagicjbjjaaGreat
open Go.RowKit
set_option maxRecDepth 100000
theorem JP {w:World} {base:Nat} {e:TypeId} {size:Nat} {v:Value} {n:Nat} {xs:List Value} (h:w.ownsRow base e size v n xs) {g:Nat} (hg:v.ownBlock=some g):base≤g∧g < w.heap.size:=by
 rcases h.2 with ⟨rfl,_⟩ | ⟨c,cap,b,rfl,a,hr⟩
 ·simp [Value.ownBlock] at hg
 ·simp [Value.ownBlock] at hg
  subst hg
  exact ⟨a,LN hr.1⟩
structure JH {α:Type} (T:TypeId) (n:Nat) (f:α→List Value) (base top:Nat) (v:Value) (l:List α) (w:World):Prop where
 own:w.ownsRow base T n v l.length (l.flatMap f)
 blk:∀ g,v.ownBlock=some g→base≤g∧g < top
 top:top≤w.heap.size
section
variable {α:Type} {T:TypeId} {n:Nat} {f:α→List Value} {base top:Nat} {v:Value} {l:List α} {w w':World}
theorem JH.nil (w:World):JH T n f w.heap.size w.heap.size (.slice none 0 0) ([]:List α) w:=
 ⟨⟨by simp,.inl ⟨rfl,rfl⟩⟩,fun g h=>by simp [Value.ownBlock] at h,Nat.le_refl _⟩
theorem JH.keep (h:JH T n f base top v l w) {O:List Nat} (a:Eh O w.heap.size w w') (b:∀ k∈O,k < base∨top≤k):JH T n f base top v l w':=by
 refine ⟨Mc h.own fun g hg=>?_,h.blk,Nat.le_trans h.top a.size⟩
 have hb:=h.blk g hg
 have ht:=h.top
 exact a.block g (by omega) fun hm=>by have:=b g hm; omega
theorem JH.below (h:JH T n f base top v l w) (a:Below w.heap.size w w'):JH T n f base top v l w':=by
 refine ⟨Mc h.own fun g hg=>?_,h.blk,Nat.le_trans h.top a.size⟩
 have hb:=h.blk g hg
 have ht:=h.top
 exact a.block g (by omega)
theorem JH.goods (h:JH T n f base top v l w) (hg:w.grownBy w' v.ownBlock) {M:List Az} (g:∀ e∈M,e.good w) (d:∀ k∈M.map (·.id),k < base∨top≤k):∀ e∈M,e.good w':=fun e he=>by
 have a:=g e he
 have b:w'.heap[e.id]?=w.heap[e.id]?:=hg.block e.id a.1 fun c=>by
  have h2:=h.blk e.id c.symm
  have i:=d e.id (List.mem_map.2 ⟨e,he,rfl⟩)
  omega
 refine ⟨Nat.lt_of_lt_of_le a.1 hg.size,?_⟩
 have h2:=a.2
 split at h2
 ·rename_i ho; rw [if_pos ho,b]; exact h2
 ·rename_i ho
  rw [if_neg ho]
  intro j u hu
  rw [World.cell?_of_block (w:=w) b]
  exact h2 j u hu
theorem W3 {xs:List α} (hn:∀ e,(f e).length=n):∀ (i:Nat) (e:α),xs[i]?=some e→∀ (j:Nat) u,(f e)[j]?=some u→(xs.flatMap f)[i * n + j]?=some u:=by
 induction xs with
 | nil=>intro i e hi; simp at hi
 | cons x xs ih=>
  intro i e hi j u hu
  cases i with
  | zero=>
   simp at hi
   subst hi
   have a:j < (f x).length:=(List.getElem?_eq_some_iff.1 hu).1
   rw [List.flatMap_cons,List.getElem?_append_left (by omega),Nat.zero_mul,Nat.zero_add]
   exact hu
  | succ i=>
   have:=ih i e (by simpa using hi) j u hu
   rw [List.flatMap_cons,List.getElem?_append_right (by rw [hn,Nat.succ_mul]; omega),hn,show (i + 1) * n + j - n=i * n + j by rw [Nat.succ_mul]; omega]
   exact this
theorem JH.rows (hn:∀ e,(f e).length=n) (h:JH T n f base top v l w):∃ A c,v=.slice A l.length c∧CU n f w A l:=by
 rcases h.own.2 with ⟨rfl,d⟩ | ⟨g,cap,b,rfl,hb,hg,hc,hm,hs,ht⟩
 ·have:l=[]:=List.eq_nil_of_length_eq_zero d
  subst this
  exact ⟨none,0,rfl,.inl rfl⟩
 ·refine ⟨_,_,rfl,.inr ⟨g,0,rfl,trivial,(Array.getElem?_eq_some_iff.1 hg).1,fun i r hi j u hu=>?_⟩⟩
  rw [List.getElem?_map] at hi
  obtain ⟨e,he,rfl⟩:=Option.map_eq_some_iff.1 hi
  have a:=W3 hn i e he j u hu
  rw [← ht,List.getElem?_take] at a
  split at a
  ·have h2:b[i * n + j]?=some u:=by rw [← Array.getElem?_toList]; exact a
   rw [show (0 + i * n + j)=i * n + j by omega]
   simp [World.cell?,hg,h2]
  ·cases a
end
section
variable {P:Program} {f:FuncId} {R:Ending→World→Prop}
end
section
variable {P:Program} {fi:FuncId} {R:Ending→World→Prop}
end
end Go.Proofs.YtkjbdagicjbjjaaGreat

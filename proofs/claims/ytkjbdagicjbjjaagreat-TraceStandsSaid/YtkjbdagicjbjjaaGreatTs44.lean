/- Contracts of functions, part 44. -/
import Derived.Test.YtkjbdagicjbjjaaGreatTs43
set_option linter.all false
namespace Go.Proofs.YtkjbdagicjbjjaaGreat
open Go.RowKit
set_option maxRecDepth 100000
abbrev Dy (ds:List Df) (i:Nat):Bool:=Ac (ds.getD i default)
theorem Mm {ds:List Df} {day:Int}:∀ (act:List Nat) (a0:Int) (b:List Nat) (a:List (Nat×List Nat)),(∀ e∈act,Dy ds e=true→(CI ds (Aa ds day) e).2=0)→(BI ds day act a0 b a).2.2=0∧(BI ds day act a0 b a).1=b++act.filter (Dy ds)∧(∀ i,i∈act.filter (Dy ds)→AH (BI ds day act a0 b a).2.1 i=some (CI ds (Aa ds day) i).1)∧∀ i,i∉act.filter (Dy ds)→AH (BI ds day act a0 b a).2.1 i=AH a i
 | [],_,b,a,_=>by rw [BI]; exact ⟨rfl,by simp,fun i hi=>(by cases hi),fun _ _=>rfl⟩
 | e :: act,a0,b,a,h=>by
  have d:∀ q∈act,Dy ds q=true→(CI ds (Aa ds day) q).2=0:=fun q g=>h q (by simp [g])
  rw [BI,List.filter_cons]
  cases hc:Ac (ds.getD e default)
  ·simp only [Bool.not_false,cond_true,show Dy ds e=false from hc]
   exact Mm act a0 b a d
  have j:=h e (by simp) hc
  rw [j]
  simp only [Bool.not_true,cond_false,beq_self_eq_true,show Dy ds e=true from hc]
  obtain ⟨m,l,k,f⟩:=Mm act a0 (b++[e]) ((e,(CI ds (Aa ds day) e).1) :: a) d
  refine ⟨m,by rw [l,List.append_assoc]; rfl,fun i hi=>?_,fun i hi=>?_⟩
  ·by_cases hm:i∈act.filter (Dy ds)
   ·exact k i hm
   rcases List.mem_cons.1 hi with rfl | hi
   ·rw [f i hm,AH,if_pos rfl]
   exact absurd hi hm
  have c:i≠e∧i∉act.filter (Dy ds):=⟨fun he=>hi (by rw [he]; exact List.mem_cons_self ..),fun hm=>hi (List.mem_cons_of_mem _ hm)⟩
  rw [f i c.2,AH]
  split
  ·rename_i e'
   exact absurd (by first | exact e' | exact e'.symm) c.1
  rfl
theorem Lg {ds:List Df} {day:Int}:∀ (act:List Nat) (a0:Int) (b:List Nat) (a:List (Nat×List Nat)),(BI ds day act a0 b a).2.2=0→∀ e∈act,Dy ds e=true→(CI ds (Aa ds day) e).2=0
 | [],_,_,_,_,e,he,_=>by cases he
 | q :: act,a0,b,a,h,e,he,hce=>by
  rw [BI] at h
  cases hc:Ac (ds.getD q default)
  ·rw [hc] at h
   rcases List.mem_cons.1 he with rfl | he
   ·rw [show Dy ds e=false from hc] at hce; cases hce
   exact Lg act a0 b a h e he hce
  rw [hc] at h
  simp only [Bool.not_true,cond_false] at h
  cases hn:!((CI ds (Aa ds day) q).2 == 0)
  ·rw [hn] at h
   rcases List.mem_cons.1 he with rfl | he
   ·exact bz hn
   exact Lg act a0 _ _ h e he hce
  rw [hn] at h
  exact absurd h (bn hn)
theorem O5 {F:Nat→Bool}:∀ (l:List Nat) (i:Nat) (a:Int),(∀ x∈l,F x=false)→CD F l i a=-1
 | [],_,_,_=>by rw [CD]
 | e :: l,i,a,h=>by
  rw [CD,h e (by simp)]
  exact O5 l (i + 1) a fun x hx=>h x (by simp [hx])
theorem Kk {F:Nat→Bool} {x:Nat} (b:F x=true):∀ (l:List Nat) (i:Nat) (a:Int),x∈l→0≤CD F l i a
 | [],_,_,h=>by cases h
 | e :: l,i,a,h=>by
  rw [CD]
  cases hc:F e
  ·rcases List.mem_cons.1 h with rfl | h
   ·rw [b] at hc; cases hc
   exact Kk b l (i + 1) a h
  show (0:Int)≤(i:Int)
  omega
theorem W2 {ml:List (Nat×Bool)} {ns:List (Nat×List Nat)} {i:Nat} (b:(AH ml i).getD false=false) (h2:∀ j∈(AH ns i).getD [],(AH ml j).getD false=true):Cg ml ns i=true:=by
 unfold Cg
 rw [b]
 show (!(EH _ _))=true
 unfold EH Br
 rw [O5 _ 0 0 fun j a=>by unfold GG; rw [h2 j a]; rfl]
 rfl
theorem W8 {ml:List (Nat×Bool)} {ns:List (Nat×List Nat)} {i:Nat} (h:Cg ml ns i=true):(AH ml i).getD false=false∧∀ j∈(AH ns i).getD [],(AH ml j).getD false=true:=by
 unfold Cg at h
 cases h1:(AH ml i).getD false
 ·rw [h1] at h
  refine ⟨rfl,fun j a=>?_⟩
  cases h2:(AH ml j).getD false
  ·have b:EH (fun j=>GG j ml) ((AH ns i).getD [])=true:=by
    unfold EH Br
    exact decide_eq_true (Kk (F:=fun j=>GG j ml) (x:=j) (by show (!((AH ml j).getD false))=true; rw [h2]; rfl) _ 0 0 a)
   rw [b] at h; cases h
  rfl
 rw [h1] at h; cases h
structure P1 (nodes:List Nat) (r:List Nat) (ml:List (Nat×Bool)):Prop where
 nodup:r.Nodup
 sub:∀ i∈r,i∈nodes
 ml:∀ i,(AH ml i).getD false=true↔i∈r
theorem P1.step {nodes r:List Nat} {ml:List (Nat×Bool)} (h:P1 nodes r ml) {y:Nat} (c:y∈nodes) (hn:(AH ml y).getD false=false):P1 nodes (r++[y]) ((y,true) :: ml):=by
 refine ⟨?_,fun i hi=>?_,fun i=>?_⟩
 ·rw [List.nodup_append]
  refine ⟨h.nodup,by simp,fun a ha b hb=>?_⟩
  rw [List.mem_singleton.1 hb]
  intro e
  have:=(h.ml a).2 ha
  rw [e,hn] at this
  cases this
 ·rcases List.mem_append.1 hi with hi | hi
  ·exact h.sub i hi
  rw [List.mem_singleton.1 hi]; exact c
 rw [AH,List.mem_append,List.mem_singleton]
 split
 ·rename_i e
  exact ⟨fun _=>.inr (by first | exact e.symm | exact e),fun _=>rfl⟩
 rename_i e
 rw [h.ml i]
 exact ⟨.inl,fun h=>h.resolve_right fun h2=>e (by first | exact h2.symm | exact h2)⟩
theorem ABF (nodes:List Nat):P1 nodes [] []:=⟨List.nodup_nil,fun i hi=>(by cases hi),fun i=>⟨fun h=>(by cases h),fun h=>(by cases h)⟩⟩
theorem Q7 {nodes:List Nat} {ns:List (Nat×List Nat)} (b:∀ r ml,P1 nodes r ml→r.length < nodes.length→∃ i∈nodes,Cg ml ns i=true):∀ (k:Nat) (r:List Nat) (ml:List (Nat×Bool)),P1 nodes r ml→(D9 nodes ns k r ml).2=0
 | 0,_,_,_=>rfl
 | k + 1,r,ml,h=>by
  rw [D9]
  cases hc:decide ((r.length:Int) < (nodes.length:Int))
  ·rfl
  simp only [cond_true]
  obtain ⟨i,hi,hr⟩:=b r ml h (by have:=of_decide_eq_true hc; omega)
  have a:decide (Br (Cg ml ns) nodes < 0)=false:=decide_eq_false (by
   have:=Kk (F:=Cg ml ns) hr nodes 0 0 hi
   unfold Br
   omega)
  rw [a]
  simp only [cond_false]
  exact Q7 b k _ _ (h.step (DR (Hj a).2) (W8 (IJ a)).1)
def qY (ns:List (Nat×List Nat)) (r:List Nat):Prop:=∀ (p:Nat) i,r[p]?=some i→∀ j∈(AH ns i).getD [],j∈r.take p
theorem Ox {nodes:List Nat} {ns:List (Nat×List Nat)}:∀ (k:Nat) (r:List Nat) (ml:List (Nat×Bool)),P1 nodes r ml→qY ns r→qY ns (D9 nodes ns k r ml).1
 | 0,_,_,_,ht=>ht
 | k + 1,r,ml,h,ht=>by
  rw [D9]
  cases hc:decide ((r.length:Int) < (nodes.length:Int))
  ·exact ht
  simp only [cond_true]
  cases hc2:decide (Br (Cg ml ns) nodes < 0)
  ·simp only [cond_false]
   have d:=W8 (IJ hc2)
   have b:=DR (Hj hc2).2
   generalize nodes.getD (Br (Cg ml ns) nodes).toNat default=y at d b ⊢
   refine Ox k (r++[y]) _ (h.step b d.1) fun p i a j e=>?_
   by_cases hpl:p < r.length
   ·rw [List.getElem?_append_left hpl] at a
    rw [List.take_append_of_le_length (by omega)]
    exact ht p i a j e
   have c:p=r.length:=by
    have:=(List.getElem?_eq_some_iff.1 a).1
    rw [List.length_append,List.length_singleton] at this
    omega
   subst c
   rw [List.getElem?_append_right (Nat.le_refl _),Nat.sub_self] at a
   obtain rfl:=Option.some.inj a
   rw [List.take_left']
   ·exact (h.ml j).1 (d.2 j e)
   rfl
  exact fun p i a=>by simp at a
theorem fy {nodes a:List Nat} {ns c:List (Nat×List Nat)} {k:Nat} (hd:a.Nodup) (u:a=nodes++[k]) (hs:∀ i∈nodes,AH c i=AH ns i) (t:∀ j∈(AH c k).getD [],j∈nodes) (h0:(Ey nodes ns).2=0):(Ey a c).2=0:=by
 unfold Ey at h0 ⊢
 have g:∀ x∈nodes,x∈(D9 nodes ns (nodes.length + 1) [] []).1:=fun x hx=>Mc hx (nodes.length + 1) [] [] List.nodup_nil (fun i hi=>by cases hi) (fun i hi=>by cases hi) (by simp) h0
 have b:qY ns (D9 nodes ns (nodes.length + 1) [] []).1:=Ox _ [] [] (ABF nodes) (fun p i e=>by simp at e)
 have n:∀ x∈(D9 nodes ns (nodes.length + 1) [] []).1,x∈nodes:=(JZ (nodes.length + 1) [] [] (fun j f=>by cases f) (Nat.zero_le _)).1
 generalize (D9 nodes ns (nodes.length + 1) [] []).1=O at g b n
 refine Q7 (fun r ml hr a0=>?_) _ [] [] (ABF a)
 have key:∀ (p:Nat) (i:Nat),O[p]?=some i→i∉r→∃ q∈nodes,Cg ml c q=true:=by
  intro p
  induction p using Nat.strongRecOn with
  | _ p ih=>
   intro i e z
   have hi:=n i (List.mem_of_getElem? e)
   by_cases hrd:∀ j∈(AH ns i).getD [],j∈r
   ·refine ⟨i,hi,W2 ?_ ?_⟩
    ·cases d:(AH ml i).getD false
     ·rfl
     exact absurd ((hr.ml i).1 d) z
    rw [hs i hi]
    exact fun j f=>(hr.ml j).2 (hrd j f)
   obtain ⟨j,f⟩:=Classical.not_forall.1 hrd
   obtain ⟨f,w⟩:=Classical.not_imp.1 f
   have v:=b p i e j f
   obtain ⟨q,d⟩:=List.mem_iff_getElem?.1 v
   have m:q < p:=by
    have:=(List.getElem?_eq_some_iff.1 d).1
    rw [List.length_take] at this
    omega
   rw [List.getElem?_take_of_lt m] at d
   exact ih q m j d w
 by_cases hallr:∀ x∈nodes,x∈r
 ·have s:k∉r:=fun h=>by
   have:=OL a r hd fun y l=>by
    rw [u] at l
    rcases List.mem_append.1 l with l | l
    ·exact hallr y l
    rw [List.mem_singleton.1 l]; exact h
   omega
  refine ⟨k,by rw [u]; simp,W2 ?_ fun j f=>(hr.ml j).2 (hallr j (t j f))⟩
  cases d:(AH ml k).getD false
  ·rfl
  exact absurd ((hr.ml k).1 d) s
 obtain ⟨x,hx⟩:=Classical.not_forall.1 hallr
 obtain ⟨hx,o⟩:=Classical.not_imp.1 hx
 obtain ⟨p,hp⟩:=List.mem_iff_getElem?.1 (g x hx)
 obtain ⟨q,d,h⟩:=key p x hp o
 exact ⟨q,by rw [u]; exact List.mem_append_left _ d,h⟩
theorem iH {n:Int} {h:Nat} {t:Ty} {x:Ex} (hx:CT n h t x):VX h x:=by
 have b:∀ {h:Nat},∀ k∈([]:List Ex),VX h k:=fun k a=>by cases a
 have mk:∀ {h:Nat} {x:Ex},x.op≠1→(x.op=4∨x.op=14∨x.op=15→x.ks≠[])→(∀ k∈x.ks,VX h k)→VX (h + 1) x:=fun e h2 d=>⟨fun h=>absurd h e,h2,d⟩
 have f:Hm.all (fun q=>AV q.1 q.2)=true:=by decide
 have one:∀ {h:Nat} {x:Ex},VX h x→∀ k∈[x],VX h k:=fun hx k a=>by rw [List.mem_singleton.1 a]; exact hx
 induction hx with
 | tru h c hc=>exact mk (show (2:Int)≠1 by decide) (fun h=>absurd (show (2:Int)=4∨(2:Int)=14∨(2:Int)=15 from h) (by decide)) b
 | name h t nm hm=>exact mk (show (3:Int)≠1 by decide) (fun h=>absurd (show (3:Int)=4∨(3:Int)=14∨(3:Int)=15 from h) (by decide)) b
 | past h t nm op c ht hop e d=>exact mk (show op≠1 by omega) (fun h=>by have g:op=4∨op=14∨op=15:=h; omega) b
 | num h t q ht h5 hq=>exact ⟨fun _=>List.all_eq_true.1 f q hq,fun h=>absurd (show (1:Int)=4∨(1:Int)=14∨(1:Int)=15 from h) (by decide),b⟩
 | not h x hx ih=>exact mk (show (17:Int)≠1 by decide) (fun _=>List.cons_ne_nil _ _) (one ih)
 | neg h t x ht hx ih=>exact mk (show (16:Int)≠1 by decide) (fun _=>List.cons_ne_nil _ _) (one ih)
 | round h t x q m ht hq m0 m6 hx ih=>exact mk (show (19:Int)≠1 by decide) (fun _=>List.cons_ne_nil _ _) (one ih)
 | scale h t nm x ht hx ih=>exact mk (show (4:Int)≠1 by decide) (fun _=>List.cons_ne_nil _ _) (one ih)
 | two h op t t1 t2 x y ht hx hy ih1 ih2=>
  exact mk (show op≠1 by unfold MO at ht; omega) (fun _=>List.cons_ne_nil _ _) fun k a=>by
   rcases List.mem_cons.1 a with rfl | a
   ·exact ih1
   rw [List.mem_singleton.1 a]; exact ih2
 | ite h t x y z hx hy hz ih1 ih2 ih3=>
  exact mk (show (18:Int)≠1 by decide) (fun _=>List.cons_ne_nil _ _) fun k a=>by
   rcases List.mem_cons.1 a with rfl | a
   ·exact ih1
   rcases List.mem_cons.1 a with rfl | a
   ·exact ih2
   rw [List.mem_singleton.1 a]; exact ih3
def NY:List (List UInt8):=[[102],[114,51],[114,50],[97],[104],[114,49],[103],[114,52]]
def LV (r:Ex):Prop:=(r.op=3∧r.nm∈NY)∨(r.op=4∧(r.nm=[119]∨r.nm=[115]))
theorem mJ {t:Ty} {n:Int} {nm:List UInt8} (h:nm∈Ke t n):nm∈NY:=by
 have i:∀ a b c d e f g k:Bool,(cond a ([102] :: cond e [[114,51]] []) (cond b (cond f [[114,50]] []++cond g [[97]] []) (cond c [[104]] (cond d (cond k [[114,49]] []) ([103] :: cond g [[114,52]] [])))):List (List UInt8)).all (fun q=>NY.contains q)=true:=by decide
 exact List.contains_iff_mem.1 (List.all_eq_true.1 (i _ _ _ _ _ _ _ _) nm h)
theorem Q1 {r:Ex}:∀ {ks:List Ex},r∈F3 ks→∃ k∈ks,r∈GO k
 | [],h=>by rw [F3] at h; cases h
 | k :: ks,h=>by
  rw [F3] at h
  rcases List.mem_append.1 h with h | h
  ·exact ⟨k,by simp,h⟩
  obtain ⟨q,a,h2⟩:=Q1 h
  exact ⟨q,by simp [a],h2⟩
theorem PQ {op num den mu hu du c m:Int} {nm:List UInt8} {ks:List Ex} {r:Ex} (h:r∈GO (.mk op num den mu hu du nm c m ks)):(r=.mk op num den mu hu du nm c m ks∧(op=3∨op=4))∨∃ k∈ks,r∈GO k:=by
 rw [GO] at h
 rcases List.mem_append.1 h with h | h
 ·left
  cases hc:cond (op == 3) true (op == 4)
  ·rw [hc] at h; cases h
  rw [hc] at h
  refine ⟨List.mem_singleton.1 h,?_⟩
  cases h3:op == 3
  ·rw [h3] at hc; exact .inr (eq_of_beq hc)
  exact .inl (eq_of_beq h3)
 exact .inr (Q1 h)
theorem wG {n:Int} {h:Nat} {t:Ty} {x:Ex} (hx:CT n h t x):∀ r∈GO x,LV r:=by
 have b:∀ {op num den mu hu du c m:Int} {nm:List UInt8} {ks:List Ex},op≠3∧op≠4→(∀ k∈ks,∀ r∈GO k,LV r)→∀ r∈GO (.mk op num den mu hu du nm c m ks),LV r:=fun g h2 r hr=>by
  rcases PQ hr with ⟨_,e | e⟩ | ⟨k,a,d⟩
  ·exact absurd e g.1
  ·exact absurd e g.2
  exact h2 k a r d
 have f:∀ k∈([]:List Ex),∀ r∈GO k,LV r:=fun k a=>by cases a
 have one:∀ {x:Ex},(∀ r∈GO x,LV r)→∀ k∈[x],∀ r∈GO k,LV r:=fun hx k a=>by rw [List.mem_singleton.1 a]; exact hx
 induction hx with
 | tru h c hc=>exact b (by decide) f
 | name h t nm hm=>
  intro r hr
  rcases PQ hr with ⟨rfl,_⟩ | ⟨k,a,_⟩
  ·exact .inl ⟨rfl,mJ hm⟩
  cases a
 | past h t nm op c ht hop g e=>exact b (by omega) f
 | num h t q ht h5 hq=>exact b (by decide) f
 | not h x hx ih=>exact b (by decide) (one ih)
 | neg h t x ht hx ih=>exact b (by decide) (one ih)
 | round h t x q m ht hq m0 m6 hx ih=>exact b (by decide) (one ih)
 | scale h t nm x ht hx ih=>
  intro r hr
  rcases PQ hr with ⟨rfl,_⟩ | ⟨k,a,d⟩
  ·exact .inr ⟨rfl,ht.elim (fun h=>.inl h.2) fun h=>.inr h.2⟩
  rw [List.mem_singleton.1 a] at d; exact ih r d
 | two h op t t1 t2 x y ht hx hy ih1 ih2=>
  exact b (by unfold MO at ht; omega) fun k a=>by
   rcases List.mem_cons.1 a with rfl | a
   ·exact ih1
   rw [List.mem_singleton.1 a]; exact ih2
 | ite h t x y z hx hy hz ih1 ih2 ih3=>
  exact b (by decide) fun k a=>by
   rcases List.mem_cons.1 a with rfl | a
   ·exact ih1
   rcases List.mem_cons.1 a with rfl | a
   ·exact ih2
   rw [List.mem_singleton.1 a]; exact ih3
section
variable {bs:List Df} {x:Ex}
theorem XS (f:x.op=3):∀ (act:List Nat) (a:Int) (b:Bool),(∃ e∈act,Dy bs e=true∧(bs.getD e default).name=x.nm)→(Bw bs x act a b).2=true∧(Bw bs x act a b).1∈act∧Dy bs (Bw bs x act a b).1=true∧(bs.getD (Bw bs x act a b).1 default).name=x.nm
 | [],_,_,⟨e,he,_⟩=>by cases he
 | e :: act,a,b,⟨q,d,hc,hn⟩=>by
  rw [Bw]
  have m:(x.op == 3)=true:=by rw [f]; rfl
  rw [m]
  cases hcc:(cond (cond (cond true (Ac (bs.getD e default)) (false)) (true) (cond (x.op == 4) ((bs.getD e default).kind == 2) (false))) (decide ((bs.getD e default).name=x.nm)) (false))
  ·have c:q∈act:=by
    rcases List.mem_cons.1 d with rfl | d
    ·rw [show Ac (bs.getD q default)=true from hc,hn,decide_eq_true rfl] at hcc; cases hcc
    exact d
   obtain ⟨l,k,j,i⟩:=XS f act a b ⟨q,c,hc,hn⟩
   exact ⟨l,List.mem_cons_of_mem _ k,j,i⟩
  have g:Ac (bs.getD e default)=true:=by
   cases hk:Ac (bs.getD e default)
   ·rw [hk,f] at hcc; cases hcc
   rfl
  have h:(bs.getD e default).name=x.nm:=by
   rw [g] at hcc
   exact of_decide_eq_true hcc
  exact ⟨rfl,List.mem_cons_self ..,g,h⟩
theorem XR (f:x.op=4):∀ (act:List Nat) (a:Int) (b:Bool),(∃ e∈act,(bs.getD e default).kind=2∧(bs.getD e default).name=x.nm)→(CP bs x act a b).2=true∧(bs.getD (CP bs x act a b).1 default).kind=2
 | [],_,_,⟨e,he,_⟩=>by cases he
 | e :: act,a,b,⟨q,d,hc,hn⟩=>by
  rw [CP]
  have h:(x.op == 3)=false:=by rw [f]; rfl
  have g:(x.op == 4)=true:=by rw [f]; rfl
  rw [h,g]
  cases hcc:(cond (cond (cond false (Ac (bs.getD e default)) (false)) (true) (cond true ((bs.getD e default).kind == 2) (false))) (decide ((bs.getD e default).name=x.nm)) (false))
  ·have c:q∈act:=by
    rcases List.mem_cons.1 d with rfl | d
    ·rw [hc,hn,decide_eq_true rfl] at hcc; cases hcc
    exact d
   exact XR f act a b ⟨q,c,hc,hn⟩
  refine ⟨rfl,?_⟩
  cases hk:(bs.getD e default).kind == 2
  ·rw [hk] at hcc; cases hcc
  exact eq_of_beq hk
theorem XT (j:x.op=3) {act:List Nat}:∀ (es:List Df) (i:Nat) (a:Int) (b:Bool),es=bs.drop i→((∃ d∈es,d.kind=1∧d.name=x.nm)∨∃ e∈act,Dy bs e=true∧(bs.getD e default).name=x.nm)→(Bf bs act x es i a b).2=true∧((bs.getD (Bf bs act x es i a b).1 default).kind=1∨((Bf bs act x es i a b).1∈act∧Dy bs (Bf bs act x es i a b).1=true∧(bs.getD (Bf bs act x es i a b).1 default).name=x.nm))
 | [],i,a,b,_,h=>by
  rw [Bf]
  rcases h with ⟨d,hd,_⟩ | h
  ·cases hd
  obtain ⟨l,k⟩:=XS j act a b h
  exact ⟨l,.inr k⟩
 | e :: es,i,a,b,he,h=>by
  obtain ⟨_,hd,h2⟩:=Pw he
  rw [Bf]
  cases hc:(cond (e.kind == 1) (decide (e.name=x.nm)) (false))
  ·refine XT j es (i + 1) a b h2 ?_
   rcases h with ⟨d,c,g,f⟩ | h
   ·left
    rcases List.mem_cons.1 c with rfl | c
    ·rw [g,f,decide_eq_true rfl] at hc; cases hc
    exact ⟨d,c,g,f⟩
   exact .inr h
  refine ⟨rfl,.inl ?_⟩
  show (bs.getD i default).kind=1
  rw [hd]
  cases hk:e.kind == 1
  ·rw [hk] at hc; cases hc
  exact eq_of_beq hk
theorem X2 {d:Df} (h:d.kind=1∨d.kind=2):Ac d=false:=by
 unfold Ac
 rcases h with h | h <;> rw [h] <;> rfl
theorem Lc {act:List Nat} {P:Nat→Prop} (i:∀ j∈act,Dy bs j=true→(bs.getD j default).name∈NY→P j) (g:∀ nm∈NY,(∃ d∈bs,d.kind=1∧d.name=nm)∨∃ e∈act,Dy bs e=true∧(bs.getD e default).name=nm) (c:∀ nm:List UInt8,nm=[119]∨nm=[115]→∃ e∈act,(bs.getD e default).kind=2∧(bs.getD e default).name=nm):∀ (es:List Ex) (a:Int) (r:List Nat),(∀ e∈es,LV e)→(∀ j∈r,P j)→(Cc bs act es a r).2=0∧∀ j∈(Cc bs act es a r).1,P j
 | [],_,r,_,hr=>by
  rw [Cc]
  exact ⟨rfl,fun j f=>hr j (Si.1 (Nz f))⟩
 | e :: es,a,r,hes,hr=>by
  have b:∀ q∈es,LV q:=fun q n=>hes q (by simp [n])
  have key:(Aq bs act e).2=true∧(Ac (bs.getD (Aq bs act e).1 default)=true→P (Aq bs act e).1):=by
   unfold Aq
   rcases hes e (by simp) with ⟨m,hn⟩ | ⟨l,hn⟩
   ·rw [show (e.op == 3)=true by rw [m]; rfl]
    simp only [cond_true]
    obtain ⟨k,h⟩:=XT (bs:=bs) m (act:=act) bs 0 0 false (by simp) (g _ hn)
    refine ⟨k,fun hc=>?_⟩
    rcases h with h | ⟨h,p,o⟩
    ·rw [show Ac (bs.getD (Bf bs act e bs 0 0 false).1 default)=false from X2 (.inl h)] at hc; cases hc
    exact i _ h p (by rw [o]; exact hn)
   rw [show (e.op == 3)=false by rw [l]; rfl]
   simp only [cond_false]
   obtain ⟨k,h⟩:=XR (bs:=bs) l act 0 false (c _ hn)
   exact ⟨k,fun hc=>by rw [show Ac (bs.getD (CP bs e act 0 false).1 default)=false from X2 (.inr h)] at hc; cases hc⟩
  rw [Cc,key.1]
  simp only [Bool.not_true,cond_false]
  cases hc:Ac (bs.getD (Aq bs act e).1 default)
  ·exact Lc i g c es a r b hr
  refine Lc i g c es a _ b fun j f=>?_
  rcases List.mem_append.1 f with f | f
  ·exact hr j f
  rw [List.mem_singleton.1 f]; exact key.2 hc
end
set_option linter.unusedSectionVars false
section
variable {ds:List Df} {x y:Ex} (hok:∀ d∈ds,I3 3 false d) (hf:SZ ds) (hl:ds.length≤30) (hx:CT 5 3 BC x) (hy:CT 1 2 BU y)
include hok
theorem JC:(ds++[BW x,Bb y]).getD ds.length default=BW x:=by
 rw [List.getD_eq_getElem?_getD,List.getElem?_append_right (Nat.le_refl _),Nat.sub_self]
 rfl
theorem wT:(ds++[BW x,Bb y]).getD (ds.length + 1) default=Bb y:=by
 rw [List.getD_eq_getElem?_getD,List.getElem?_append_right (Nat.le_succ _),show ds.length + 1 - ds.length=1 by omega]
 rfl
theorem ABE {i:Nat} (hi:i < ds.length):Cr (ds++[BW x,Bb y]) 20464 i=Cr ds 20464 i:=by
 have hg:ds.getD i default=(ds++[BW x,Bb y]).getD i default:=(FT hi).symm
 have hm:ds.getD i default∈ds:=DR hi
 unfold Cr
 rw [R2,← Sl hg ds 0 false,PO [BW x,Bb y] _ false]
 ·cases BG ds 20464 i ds 0 false <;> rfl
 intro e he
 rcases List.mem_cons.1 he with rfl | he
 ·left
  rw [← hg]
  exact fun h=>Lx (hok _ hm) h.symm
 rw [List.mem_singleton.1 he]
 exact .inr (show (20464:Int) < 20465 by decide)
theorem MD:Aa (ds++[BW x,Bb y]) 20464=Aa ds 20464++[ds.length]:=by
 rw [JS,JS,List.length_append]
 show (List.range' 0 (ds.length + 2)).filter _=_
 rw [show List.range' 0 (ds.length + 2)=List.range' 0 ds.length++[ds.length,ds.length + 1] by
  rw [← List.range'_append_1 (s:=0) (m:=ds.length) (n:=2),Nat.zero_add]; rfl]
 rw [List.filter_append]
 have c:(List.range' 0 ds.length).filter (GJ (ds++[BW x,Bb y]) 20464)=(List.range' 0 ds.length).filter (GJ ds 20464):=by
  refine List.filter_congr fun i hi=>?_
  rw [List.mem_range'_1] at hi
  have a:i < ds.length:=by omega
  unfold GJ
  rw [FT a,ABE hok a]
 have f:GJ (ds++[BW x,Bb y]) 20464 ds.length=true:=by
  unfold GJ
  rw [JC hok]
  have hr:Cr (ds++[BW x,Bb y]) 20464 ds.length=false:=by
   unfold Cr
   rw [R2,PO ds 0 false]
   ·rw [Nat.zero_add,BG,BG,BG,JC hok]
    have b:decide ((ds.length:Int) < (ds.length:Int))=false:=decide_eq_false (by omega)
    rw [b]
    rfl
   intro e he
   rw [JC hok]
   exact .inl (Lx (hok e he))
  rw [hr]
  rfl
 have d:GJ (ds++[BW x,Bb y]) 20464 (ds.length + 1)=false:=by
  unfold GJ
  rw [wT hok]
  rfl
 rw [c,List.filter_cons,List.filter_cons,f,d]
 rfl
include hf hl hx hy
theorem pr (hp:CJ Af ds 20464=0):(Ad Af (ds++[BW x,Bb y]) 20464).2=0:=by
 have hv:=Px hok hl hx hy hp
 have t:=(Ma hp).2
 have a:∀ i∈Aa ds 20464,i < ds.length:=fun i hi=>(M4.1 hi).1
 have w:∀ d∈[BW x,Bb y],(d.kind == 1)=false:=fun d hd=>by
  rcases List.mem_cons.1 hd with rfl | hd
  ·rfl
  rw [List.mem_singleton.1 hd]; rfl
 have n:(A4 Af ds 20464).2.2=0∧(Ey (A4 Af ds 20464).1 (A4 Af ds 20464).2.1).2=0:=by
  unfold Ad at t
  cases hc:!((A4 Af ds 20464).2.2 == 0)
  ·rw [hc] at t; exact ⟨bz hc,t⟩
  rw [hc] at t; exact absurd t (bn hc)
 have c0:C7 Af ds 20464=0:=by
  have:=n.1
  unfold A4 at this
  cases hc:!(C7 Af ds 20464 == 0)
  ·exact bz hc
  rw [hc] at this; exact absurd this (bn hc)
 have eg:A4 Af ds 20464=BI ds 20464 (Aa ds 20464) 0 [] []:=by
  unfold A4
  rw [c0]
  rfl
 rw [eg] at n
 have hn:=Lg _ _ _ _ n.1
 obtain ⟨_,g2,g3,_⟩:=Mm (Aa ds 20464) 0 [] [] hn
 rw [List.nil_append] at g2
 have same:∀ i∈Aa ds 20464,CI (ds++[BW x,Bb y]) (Aa (ds++[BW x,Bb y]) 20464) i=CI ds (Aa ds 20464) i∨Dy ds i=false:=fun i hi=>by
  cases hc:Dy ds i
  ·exact .inr rfl
  left
  rw [MD hok]
  unfold CI
  rw [FT (a i hi)]
  exact Nj [ds.length] a w _ 0 [] (hn i hi hc)
 have g:∀ i∈Aa ds 20464,Dy (ds++[BW x,Bb y]) i=Dy ds i:=fun i hi=>by unfold Dy; rw [FT (a i hi)]
 have idx:∀ d∈ds,∃ i,i < ds.length∧ds.getD i default=d:=fun d hd=>by
  obtain ⟨i,hi⟩:=List.mem_iff_getElem?.1 hd
  exact ⟨i,(List.getElem?_eq_some_iff.1 hi).1,by rw [List.getD_eq_getElem?_getD,hi]; rfl⟩
 have act:∀ d∈ds,d.frm≤20464→∃ j∈Aa ds 20464,(ds.getD j default).kind=d.kind∧(ds.getD j default).name=d.name:=fun d hd p=>by
  obtain ⟨i,hi,rfl⟩:=idx d hd
  exact ABq _ i rfl hi p
 have mem:∀ j∈Aa ds 20464,j∈Aa (ds++[BW x,Bb y]) 20464:=fun j b=>by rw [MD hok]; exact List.mem_append_left _ b
 have rul:∀ k,k < 4→∃ e∈Aa (ds++[BW x,Bb y]) 20464,Dy (ds++[BW x,Bb y]) e=true∧((ds++[BW x,Bb y]).getD e default).name=Ng.getD k []:=fun k r=>by
  obtain ⟨z,hz⟩:=hf.rul k r
  obtain ⟨j,c,h2,u⟩:=act _ hz (show (20454:Int)≤20464 by decide)
  refine ⟨j,mem j c,?_,by rw [FT (a j c)]; exact u⟩
  rw [g j c]
  unfold Dy Ac
  rw [h2]
  rfl
 have pay:∃ e∈Aa (ds++[BW x,Bb y]) 20464,Dy (ds++[BW x,Bb y]) e=true∧((ds++[BW x,Bb y]).getD e default).name=[97]:=by
  obtain ⟨z,m,q,hz⟩:=hf.pay
  obtain ⟨j,c,h2,u⟩:=act _ hz (show (20454:Int)≤20464 by decide)
  refine ⟨j,mem j c,?_,by rw [FT (a j c)]; exact u⟩
  rw [g j c]
  unfold Dy Ac
  rw [h2]
  rfl
 have ins:∀ d∈Fm,d.kind=1→∃ q∈ds++[BW x,Bb y],q.kind=1∧q.name=d.name:=fun d hd r=>⟨d,List.mem_append_left _ (hf.ins d hd),r,rfl⟩
 have a0:∀ nm∈NY,(∃ d∈ds++[BW x,Bb y],d.kind=1∧d.name=nm)∨∃ e∈Aa (ds++[BW x,Bb y]) 20464,Dy (ds++[BW x,Bb y]) e=true∧((ds++[BW x,Bb y]).getD e default).name=nm:=fun nm l=>by
  simp only [NY,List.mem_cons,List.not_mem_nil,or_false] at l
  rcases l with rfl | rfl | rfl | rfl | rfl | rfl | rfl | rfl
  ·exact .inl (ins ⟨1,[102],true,0,0,0,0,[],BM,0,0,0⟩ (by simp [Fm]) rfl)
  ·exact .inr (rul 2 (by decide))
  ·exact .inr (rul 1 (by decide))
  ·exact .inr pay
  ·exact .inl (ins ⟨1,[104],false,0,1,0,0,[],BM,0,0,0⟩ (by simp [Fm]) rfl)
  ·exact .inr (rul 0 (by decide))
  ·exact .inl (ins ⟨1,[103],false,0,0,0,0,[],BM,0,0,0⟩ (by simp [Fm]) rfl)
  exact .inr (rul 3 (by decide))
 have v:∀ nm:List UInt8,nm=[119]∨nm=[115]→∃ e∈Aa (ds++[BW x,Bb y]) 20464,((ds++[BW x,Bb y]).getD e default).kind=2∧((ds++[BW x,Bb y]).getD e default).name=nm:=fun nm l=>by
  have one:∀ d∈ds,d.kind=2→d.name=nm→d.frm≤20464→∃ e∈Aa (ds++[BW x,Bb y]) 20464,((ds++[BW x,Bb y]).getD e default).kind=2∧((ds++[BW x,Bb y]).getD e default).name=nm:=fun d hd r hn p=>by
   obtain ⟨j,c,h2,u⟩:=act d hd p
   exact ⟨j,mem j c,by rw [FT (a j c),h2,r],by rw [FT (a j c),u,hn]⟩
  rcases l with rfl | rfl
  ·obtain ⟨es,_,h⟩:=hf.scw; exact one _ h rfl rfl (show (20454:Int)≤20464 by decide)
  obtain ⟨es,_,h⟩:=hf.scs; exact one _ h rfl rfl (show (20454:Int)≤20464 by decide)
 have o:(CI (ds++[BW x,Bb y]) (Aa (ds++[BW x,Bb y]) 20464) ds.length).2=0∧∀ j∈(CI (ds++[BW x,Bb y]) (Aa (ds++[BW x,Bb y]) 20464) ds.length).1,j∈(Aa ds 20464).filter (Dy ds):=by
  unfold CI
  rw [JC hok]
  refine Lc (P:=fun j=>j∈(Aa ds 20464).filter (Dy ds)) (fun j b hc hr=>?_) a0 v _ 0 [] (fun e he=>?_) (fun j b=>by cases b)
  ·rw [MD hok] at b
   rcases List.mem_append.1 b with b | b
   ·exact List.mem_filter.2 ⟨b,by rw [← g j b]; exact hc⟩
   rw [List.mem_singleton.1 b,JC hok] at hr
   exact absurd hr (by decide:([110,101,119]:List UInt8)∉NY)
  unfold BZ at he
  rw [List.nil_append] at he
  exact wG hx e he
 have s:∀ e∈Aa (ds++[BW x,Bb y]) 20464,Dy (ds++[BW x,Bb y]) e=true→(CI (ds++[BW x,Bb y]) (Aa (ds++[BW x,Bb y]) 20464) e).2=0:=fun e he hc=>by
  rw [MD hok] at he
  rcases List.mem_append.1 he with he | he
  ·rw [g e he] at hc
   rcases same e he with h | h
   ·rw [h]; exact hn e he hc
   rw [h] at hc; cases hc
  rw [List.mem_singleton.1 he]; exact o.1
 obtain ⟨b1,b2,b3,_⟩:=Mm (Aa (ds++[BW x,Bb y]) 20464) 0 [] [] s
 rw [List.nil_append] at b2
 have f:(Aa (ds++[BW x,Bb y]) 20464).filter (Dy (ds++[BW x,Bb y]))=(Aa ds 20464).filter (Dy ds)++[ds.length]:=by
  rw [MD hok,List.filter_append,List.filter_congr g,List.filter_cons,show Dy (ds++[BW x,Bb y]) ds.length=true by unfold Dy; rw [JC hok]; rfl]
  rfl
 have b0:C7 Af (ds++[BW x,Bb y]) 20464=0:=by
  unfold C7
  rw [hv]
  rfl
 have d0:A4 Af (ds++[BW x,Bb y]) 20464=BI (ds++[BW x,Bb y]) 20464 (Aa (ds++[BW x,Bb y]) 20464) 0 [] []:=by
  unfold A4
  rw [b0]
  rfl
 unfold Ad
 rw [d0,b1]
 show (Ey _ _).2=0
 refine fy (nodes:=(Aa ds 20464).filter (Dy ds)) (ns:=(BI ds 20464 (Aa ds 20464) 0 [] []).2.1) (k:=ds.length) ?_ ?_ (fun i hi=>?_) (fun j b=>?_) ?_
 ·rw [b2]; exact (YF _ _).filter _
 ·rw [b2,f]
 ·rw [b3 i (by rw [f]; exact List.mem_append_left _ hi),g3 i hi]
  obtain ⟨c,h2⟩:=List.mem_filter.1 hi
  rcases same i c with h | h
  ·rw [h]
  rw [h] at h2; cases h2
 ·rw [b3 ds.length (by rw [f]; simp)] at b
  exact o.2 j b
 rw [← g2]; exact n.2
theorem pm (a:CJ Af ds 20464=0):CJ Af (ds++[BW x,Bb y]) 20464=0:=by
 unfold CJ
 rw [qR hok hl hx hy hf a]
 exact pr hok hf hl hx hy a
end
set_option linter.unusedSectionVars false
theorem Sr {ds:List Df}:∀ (l m:List Nat) (s:GK),Dr ds (l++m) s=Dr ds m (Dr ds l s)
 | [],_,_=>rfl
 | i :: l,m,s=>by rw [List.cons_append,Dr,Dr,Sr l m]
theorem Ov {ds bs:List Df}:∀ (l:List Nat) (s:GK),(∀ i∈l,ds.getD i default=bs.getD i default)→Dr bs l s=Dr ds l s
 | [],_,_=>rfl
 | i :: l,s,h=>by
  rw [Dr,Dr,show IG bs i s=IG ds i s by unfold IG; rw [h i (by simp)]]
  exact Ov l _ fun q a=>h q (by simp [a])
theorem Sq {ds:List Df}:∀ (l:List Nat) (s:GK),(∀ i∈l,i < ds.length)→(∀ q∈s.1,∃ d∈ds,q.1=d.name)→∀ q∈(Dr ds l s).1,∃ d∈ds,q.1=d.name
 | [],_,_,h=>h
 | i :: l,s,hl,h=>by
  rw [Dr]
  refine Sq l _ (fun q a=>hl q (by simp [a])) ?_
  unfold IG
  cases (ds.getD i default).kind == 1
  ·simp only [cond_false]
   cases (ds.getD i default).kind == 2
   ·simp only [cond_false]
    cases ((ds.getD i default).kind == 3 || (ds.getD i default).kind == 4)
    ·exact h
    simp only [cond_true]
    cases !(AH s.2.1 (ds.getD i default).name).isSome <;> exact h
   simp only [cond_true]
   cases !(AH s.2.2 (ds.getD i default).name).isSome <;> exact h
  intro q a
  rcases List.mem_cons.1 a with rfl | a
  ·exact ⟨_,DR (hl i (by simp)),rfl⟩
  exact h q a
theorem fX {s s':GK} {u:DP} {a:List (List UInt8×Int×Int)} (c:s'.1=s.1) (h2:s'.2.2=s.2.2) (b:u.1.1=3→AH s'.2.1 u.1.2.1=AH s.2.1 u.1.2.1):Gj s' u a=Gj s u a:=by
 unfold Gj
 rw [c,h2]
 cases hc:u.1.1 == 3
 ·rfl
 rw [b (eq_of_beq hc)]
theorem MK {h:Nat} {d:Df} {s s':GK} {e:C4} {a:List (List UInt8×Int×Int)}:∀ (b:List DP) (m:List (Ao×Int×Int)),(∀ u∈b,Gj s' u a=Gj s u a)→Fv h d s' e a b m=Fv h d s e a b m
 | [],_,_=>rfl
 | u :: r,m,hs=>by
  rw [Fv,Fv,hs u (by simp),MK r _ fun q c=>hs q (by simp [c]),MK r _ fun q c=>hs q (by simp [c])]
section
variable {ds:List Df} {x y:Ex} (hok:∀ d∈ds,I3 3 false d) (hf:SZ ds) (hl:ds.length≤30) (hx:CT 5 3 BC x) (hy:CT 1 2 BU y)
include hok hf hl hx hy
theorem pl (a:CJ Af ds 20464=0):(Ap Af (ds++[BW x,Bb y]) 20464).1=(Ap Af ds 20464).1∧(Ap Af (ds++[BW x,Bb y]) 20464).2.2=(Ap Af ds 20464).2.2∧∀ nm,(nm≠[110,101,119]∨(AH (Ap Af ds 20464).2.1 nm).isSome=true)→AH (Ap Af (ds++[BW x,Bb y]) 20464).2.1 nm=AH (Ap Af ds 20464).2.1 nm:=by
 have hv:∀ l:List Df,EK Af l=true→Ct Af l 20464=Aa l 20464:=fun l hl=>by
  unfold Ct C7
  rw [hl]
  rfl
 have f:EK Af ds=true:=by
  refine JQ ?_
  unfold CJ at a
  cases hc:!((Ca Af ds).2 == 0)
  ·rfl
  rw [hc] at a; exact absurd a (bn hc)
 have c:∀ i∈Aa ds 20464,i < ds.length:=fun i hi=>(M4.1 hi).1
 have e:Ap Af (ds++[BW x,Bb y]) 20464=IG (ds++[BW x,Bb y]) ds.length (Ap Af ds 20464):=by
  unfold Ap
  rw [hv _ (Px hok hl hx hy a),hv _ f,MD hok,Sr,Ov _ _ fun i hi=>(FT (c i hi)).symm]
  rfl
 rw [e]
 generalize Ap Af ds 20464=s
 unfold IG
 rw [JC hok]
 show (cond (!(AH s.2.1 [110,101,119]).isSome) (s.1,(([110,101,119]:List UInt8),(ds.length:Int)) :: s.2.1,s.2.2) s:GK).1=s.1∧(cond (!(AH s.2.1 [110,101,119]).isSome) (s.1,(([110,101,119]:List UInt8),(ds.length:Int)) :: s.2.1,s.2.2) s:GK).2.2=s.2.2∧∀ nm,(nm≠[110,101,119]∨(AH s.2.1 nm).isSome=true)→AH (cond (!(AH s.2.1 [110,101,119]).isSome) (s.1,(([110,101,119]:List UInt8),(ds.length:Int)) :: s.2.1,s.2.2) s:GK).2.1 nm=AH s.2.1 nm
 cases hc:!(AH s.2.1 [110,101,119]).isSome
 ·exact ⟨rfl,rfl,fun _ _=>rfl⟩
 refine ⟨rfl,rfl,fun nm b=>?_⟩
 show AH (_ :: s.2.1) nm=_
 rw [AH]
 split
 ·rename_i e2
  have d:nm=[110,101,119]:=by first | exact e2.symm | exact e2
  rcases b with h | h
  ·exact absurd d h
  rw [d] at h
  rw [h] at hc
  cases hc
 rfl
theorem Yt (j:CJ Af ds 20464=0):∀ (l:List C4) (b:List (List UInt8×Int×Int)),(∀ e∈l,∀ u∈e.2.2.1,u.1.1=3→u.1.2.1≠[110,101,119])→HL ds (Ap Af ds 20464) 3 l b=true→HL (ds++[BW x,Bb y]) (Ap Af (ds++[BW x,Bb y]) 20464) 3 l b=true
 | [],_,_,_=>rfl
 | e :: r,b,hu,hv=>by
  obtain ⟨p1,k,h⟩:=pl hok hf hl hx hy j
  rw [HL] at hv ⊢
  cases hc:!(FK ds (Ap Af ds 20464) 3 e b)
  ·rw [hc] at hv
   have a:FK ds (Ap Af ds 20464) 3 e b=true:=by simpa using hc
   have g:FK (ds++[BW x,Bb y]) (Ap Af (ds++[BW x,Bb y]) 20464) 3 e b=true:=by
    unfold FK at a ⊢
    cases hr:AH (Ap Af ds 20464).2.1 e.1 with
    | none=>rw [hr] at a; cases a
    | some q=>
     rw [h e.1 (.inr (by rw [hr]; rfl)),hr]
     rw [hr] at a
     obtain ⟨i,hi,d,_⟩:=KW _ (EM hr)
     obtain rfl:q=(i:Int):=(Prod.mk.inj d).2
     have f:i < ds.length:=Ew _ hi
     simp only at a ⊢
     rw [Int.toNat_natCast,FT f]
     rw [Int.toNat_natCast] at a
     rw [MK _ [] fun u c=>fX p1 k fun m=>h _ (.inl (hu e (by simp) u c m))]
     exact a
   rw [g]
   exact Yt j r _ (fun q d=>hu q (by simp [d])) hv
  rw [hc] at hv; cases hv
theorem Wl {ins:List Dl} {pa:List Dk} {nm:List UInt8} (h0:(CX Af ds 20464 3 ins pa nm).2=0):Ha Af (ds++[BW x,Bb y]) 20464 3 (CX Af ds 20464 3 ins pa nm).1=true∧∀ k,Ha Af ds 20464 3 ((CX Af ds 20464 3 ins pa nm).1.take (k + 1))=true:=by
 have hvx:∀ d∈ds,Ac d=true→VX 3 d.body:=fun d hd hc=>by
  have h:=hok d hd
  cases h with
  | ins d hd=>
   simp only [Fm,List.mem_cons,List.not_mem_nil,or_false] at hd
   rcases hd with rfl | rfl | rfl | rfl | rfl <;> cases hc
  | sc nm t frm es h hf he=>cases hc
  | rule i frm x n hi hf hn hx=>exact iH hx
  | pay i x mode q hi h0 h6 hq hx=>exact iH hx
 obtain ⟨h1,nmF,h2,h3⟩:=qJ hvx h0
 refine ⟨?_,iK h1⟩
 obtain ⟨v1,v2,v3,v4⟩:=KJ.1 h1
 refine KJ.2 ⟨pm hok hf hl hx hy v1,v2,v3,Yt hok hf hl hx hy v1 _ [] (fun e he u hu hk=>?_) v4⟩
 have ha:=h2 e he u hu
 unfold Bm at ha
 rw [hk] at ha
 have hb:fz (AH nmF u.1.2.1)=(u.2.1,u.2.2,0):=ha
 cases hq:AH nmF u.1.2.1 with
 | none=>
  rw [hq] at hb
  have e:(16:Int)=0:=congrArg (fun r:Int×Int×Int=>r.2.2) hb
  exact absurd e (by decide)
 | some v=>
  rcases h3 _ v hq with h4 | ⟨i,hi,h4⟩
  ·cases hs:AH (Ap Af ds 20464).1 u.1.2.1 with
   | none=>rw [hs] at h4; cases h4
   | some b=>
    obtain ⟨d,hd,hn⟩:=Sq (Ct Af ds 20464) ([],[],[]) (fun i hi=>Ew _ hi) (fun q hq=>by cases hq) _ (EM hs)
    rw [show u.1.2.1=d.name from hn]
    exact Lx (hok d hd)
  rw [h4]
  exact Lx (hok _ (DR (Ew _ (Gr.1 i hi))))
end
end Go.Proofs.YtkjbdagicjbjjaaGreat

/-
  Part 18 of a proof: contracts of functions.
-/
import Derived.Test.YtkjbdagicjbjjaaGreatTf17
import Derived.StringKeys
set_option linter.all false
namespace Go.Proofs.YtkjbdagicjbjjaaGreat
open Go.RowKit
set_option maxRecDepth 100000
set_option maxHeartbeats 600000
set_option linter.unusedSectionVars false
structure BT (α β:Type) where
 k:TypeId
 e:TypeId
 t:TypeId
 kv:α→Value
 kl:α→Lit
 ka:α→Prop
 ev:β→Value
 ea:β→Prop
 z:β
 R:Value→Option (DataW Unit×List MemPlace)
 code:β→DataW Unit
 K:Maps.Keyed Tryz.prog k
 ht:Tryz.prog.underlying t=some (.map k e)
 key:∀ a,ka a→keyOf Tryz.prog k (kv a)=some (kl a)
 isKey:∀ a,WideAt.IsKeyLit (kl a)
 inj:∀ a b,ka a→ka b→kl a=kl b→a=b
 hz:∀ w,(zeroValue e).run Tryz.prog w=.ok (ev z) w
 za:ea z
 hR:∀ v,ea v→R (ev v)=some (code v,[])
 hinv:∀ x v ps,R x=some (code v,ps)→x=ev v
section
variable {α β:Type} [DecidableEq α] (S:BT α β)
def AO:List (α×β)→α→Option β
 | [],_=>none
 | p :: m,a=>if p.1=a then some p.2 else AO m a
def BT.dat:List (α×β)→DataW Unit
 | []=>.map []
 | p :: m=>(BT.dat m).put (S.kl p.1) (S.code p.2)
theorem BT.dat_map:∀ m:List (α×β),Maps.IsMap (S.dat m)
 | []=>⟨[],rfl⟩
 | p :: m=>by
  obtain ⟨es,h⟩:=BT.dat_map m
  unfold BT.dat
  rw [h]
  exact ⟨_,rfl⟩
theorem BT.dat_has:∀ (m:List (α×β)) (a:α),(∀ p∈m,S.ka p.1)→S.ka a→Maps.has (S.dat m) (S.kl a)=(AO m a).isSome
 | [],a,_,_=>rfl
 | p :: m,a,hm,ha=>by
  unfold BT.dat AO
  by_cases h:p.1=a
  ·subst h
   rw [if_pos rfl,Maps.has_put_same (S.dat_map m) (S.isKey _)]
   rfl
  ·rw [if_neg h,Maps.has_put_other (fun e=>h (S.inj _ _ ha (hm p (by simp)) e).symm),BT.dat_has m a (fun q b=>hm q (by simp [b])) ha]
theorem BT.dat_at:∀ (m:List (α×β)) (a:α),(∀ p∈m,S.ka p.1)→S.ka a→(S.dat m).atKey (S.kl a) (S.code S.z)=S.code ((AO m a).getD S.z)
 | [],a,_,_=>rfl
 | p :: m,a,hm,ha=>by
  unfold BT.dat AO
  by_cases h:p.1=a
  ·subst h
   rw [if_pos rfl,Maps.atKey_put_same (S.dat_map m) (S.isKey _)]
   rfl
  ·rw [if_neg h,Maps.atKey_put_other (fun e=>h (S.inj _ _ ha (hm p (by simp)) e).symm),BT.dat_at m a (fun q b=>hm q (by simp [b])) ha]
def BT.at (b:Nat) (m:List (α×β)) (w:World):Prop:=w.ownsMap Tryz.prog S.k S.R b m.length (S.dat m)∧∀ p∈m,S.ka p.1
theorem BT.at_fr {b:Nat} {m:List (α×β)} {w w':World} (h:S.at b m w) (hb:b < w.heap.size→w'.heap[b]?=w.heap[b]?):S.at b m w':=by
 have hl:=World.ownsMap.lt h.1
 obtain ⟨⟨es,a,d,h2⟩,c⟩:=h
 exact ⟨⟨es,a,(hb hl).trans d,h2⟩,c⟩
def BT.th (b:Nat) (m:List (α×β)):Th:=⟨(·=b),S.at b m,fun _ _ h _ hk=>S.at_fr h (hk b rfl)⟩
theorem BT.look {b:Nat} {m:List (α×β)} {w:World} (h:S.at b m w) (a:α) (ha:S.ka a):(Instr.lookup S.t (.map (some b)) (S.kv a) false).run Tryz.prog w=.ok (S.ev ((AO m a).getD S.z)) w:=by
 obtain ⟨v,d,c,h2⟩:=World.ownsMap.lookup h.1 S.K S.ht (S.hz w) (S.hR _ S.za) (S.key a ha)
 rw [S.dat_at m a h.2 ha] at h2
 rw [c,S.hinv _ _ _ h2]
theorem BT.look2 {b:Nat} {m:List (α×β)} {w:World} (h:S.at b m w) (a:α) (ha:S.ka a):(Instr.lookup S.t (.map (some b)) (S.kv a) true).run Tryz.prog w=.ok (.tuple #[S.ev ((AO m a).getD S.z),.bool (AO m a).isSome]) w:=by
 obtain ⟨v,d,c,h2⟩:=World.ownsMap.look_ok h.1 S.K S.ht (S.hz w) (S.hR _ S.za) (S.key a ha)
 rw [S.dat_at m a h.2 ha] at h2
 rw [c,S.hinv _ _ _ h2,S.dat_has m a h.2 ha]
theorem BT.store {b:Nat} {m:List (α×β)} {w:World} (h:S.at b m w) (a:α) (v:β) (ha:S.ka a) (hv:S.ea v) (hm:m.length < maxLen):∃ w',(Instr.mapUpdate S.t (.map (some b)) (S.kv a) (S.ev v)).run Tryz.prog w=.ok () w'∧S.at b ((a,v) :: m) w'∧w.grownBy w' (some b):=by
 obtain ⟨w',e,h2,d⟩:=World.ownsMap.update h.1 S.K S.ht hm (S.key a ha) (S.hR v hv)
 exact ⟨w',e,⟨h2,fun p c=>by rcases List.mem_cons.1 c with rfl | c; exact ha; exact h.2 p c⟩,d⟩
end
section
variable {α β:Type} [DecidableEq α] (S:BT α β) {o:Oper} {ρ:Operand→Value} {w:World}
theorem Ff {t:TypeId} {x y:Operand} (hop:o.op=.lookup t x y false) (ht:t=S.t) {b:Nat} {m:List (α×β)} (hx:ρ x=.map (some b)) (a:α) (c:ρ y=S.kv a) (ha:S.ka a) (h:S.at b m w):(execOp ρ o).run Tryz.prog w=.ok (.value (S.ev ((AO m a).getD S.z))) w:=by
 subst ht
 have:=S.look h a ha
 unfold execOp
 simp only [hop,hx,c]
 rw [Sem.run_bind,this]
 rfl
theorem Dp {t:TypeId} {x y:Operand} (hop:o.op=.lookup t x y true) (ht:t=S.t) {b:Nat} {m:List (α×β)} (hx:ρ x=.map (some b)) (a:α) (c:ρ y=S.kv a) (ha:S.ka a) (h:S.at b m w):(execOp ρ o).run Tryz.prog w=.ok (.value (.tuple #[S.ev ((AO m a).getD S.z),.bool (AO m a).isSome])) w:=by
 subst ht
 have:=S.look2 h a ha
 unfold execOp
 simp only [hop,hx,c]
 rw [Sem.run_bind,this]
 rfl
end
section
variable {α β:Type} [DecidableEq α] (S:BT α β) {fi:FuncId} {R:Ending→World→Prop} {k:Nat} {td:List Item} {E:Nat→Value} {b:Nat} {L:List Th} {w:World}
theorem M1 {P:Program} {f:FuncId} {R:Ending→World→Prop} {n:Nat} {todo:List Item} {E:Nat→Value} {w w':World} (o:Oper) (hc:Fx n E todo=some o) (hx:(execOp (Ax n E) o).run P w=.ok .skip w') (h:At P f R (AC todo) (Fr n (Aq E o.dst undef)) w'):At P f R todo (Fr n E) w:=by
 unfold Fx at hc
 split at hc
 ·rename_i ops i r k
  split at hc
  ·rename_i o' ho
   split at hc
   ·rename_i hw
    obtain rfl:=Option.some.inj hc
    refine FZ ho (by rw [FE]; exact hw) ?_
    unfold Oper.wp
    rw [Db,hx]
    show wpOps P ops _ r ((Fr n E).put o'.dst undef) w'
    rw [EJ]
    exact h
   ·cases hc
  ·cases hc
 ·cases hc
theorem Ey (H:Ac b w L) (o:Oper) (hc:Fx k E td=some o) {t:TypeId} (ho:o.op=.makeMap t none)
  (f:∀ w',w'.heap.size=w.heap.size + 1→Ac b w' (L++[S.th w.heap.size []])→Below b w w'→At Tryz.prog fi R (AC td) (Fr k (Aq E o.dst (.map (some w.heap.size)))) w'):At Tryz.prog fi R td (Fr k E) w:=by
 have hx:(execOp (Ax k E) o).run Tryz.prog w=.ok (.value (.map (some w.heap.size))) (w.alloc (.map #[] 0)):=by
  unfold execOp
  simp only [ho]
  rfl
 have d:Below w.heap.size w (w.alloc (.map #[] 0)):=⟨rfl,rfl,rfl,by simp,fun q a=>F5 w _ q a⟩
 refine QL o hc hx (f _ (by simp) (H.join d ⟨by simp,fun i t hi=>?_,fun i t hi q a=>?_,fun i j s t hi g c=>?_⟩) (d.mono H.base))
 ·cases i with
  | zero=>obtain rfl:=Option.some.inj hi; exact ⟨World.ownsMap_made w Tryz.prog S.k S.R,fun p e=>by cases e⟩
  | succ i=>simp at hi
 ·cases i with
  | zero=>
   obtain rfl:=Option.some.inj hi
   obtain rfl:q=w.heap.size:=a
   simp
  | succ i=>simp at hi
 ·cases i with
  | zero=>cases j with
   | zero=>exact absurd rfl c
   | succ j=>simp at g
  | succ i=>simp at hi
theorem Fj (H:Ac b w L) (i:Nat) {g:Nat} {m:List (α×β)} (hi:L[i]?=some (S.th g m)) (a:α) (v:β) (ha:S.ka a) (hv:S.ea v) (o:Oper) (hc:Fx k E td=some o) {t:TypeId} {x y z:Operand} (ho:o.op=.mapUpdate t x y z) (ht:t=S.t)
  (hx:Ax k E x=.map (some g)) (f:Ax k E y=S.kv a) (hz:Ax k E z=S.ev v) (hm:m.length < 100000000000)
  (h:∀ w',Ac b w' (L.set i (S.th g ((a,v) :: m)))→Below b w w'→At Tryz.prog fi R (AC td) (Fr k (Aq E o.dst undef)) w'):At Tryz.prog fi R td (Fr k E) w:=by
 subst ht
 obtain ⟨w',j,h2,c⟩:=S.store (H.all i _ hi) a v ha hv (by unfold maxLen; omega)
 have hl:=(H.lo i _ hi g rfl)
 have e:(execOp (Ax k E) o).run Tryz.prog w=.ok .skip w':=by
  unfold execOp
  simp only [ho,hx,f,hz]
  rw [Sem.run_bind,j]
  rfl
 refine M1 o hc e (h w' (H.set i hi c.size h2 (fun q d=>?_) (fun q d hf=>c.block q d fun he=>hf (Option.some.inj he))) ⟨c.os,c.tape,c.output,c.size,fun q d=>c.block q (Nat.lt_of_lt_of_le d H.base) fun he=>?_⟩)
 ·obtain rfl:q=g:=d
  exact ⟨World.ownsMap.lt h2.1,.inl rfl⟩
 ·have:=Option.some.inj he
  omega
end
theorem Gk {a:Int} (b:-9223372036854775808≤a) (h2:a≤9223372036854775807):(Lit.int .i64 a).wf=true:=by
 have d:IntKind.i64.min=-9223372036854775808:=by decide
 have c:IntKind.i64.max=9223372036854775807:=by decide
 show (decide (IntKind.i64.min≤a) && decide (a≤IntKind.i64.max))=true
 rw [d,c,decide_eq_true b,decide_eq_true h2]
 rfl
noncomputable def FB:BT (List UInt8) Int where
 k:=9
 e:=3
 t:=69
 kv s:=.string ⟨⟨s⟩⟩
 kl s:=.string s
 ka s:=s.length≤4294967296
 ev n:=.int .i64 n
 ea n:=-9223372036854775808≤n∧n≤9223372036854775807
 z:=0
 R:=plainElem Tryz.prog 3
 code n:=.lit (.int .i64 n)
 K:=Maps.string_keyed Tryz.underlying9
 ht:=Tryz.underlying69
 key a ha:=WideMaps.keyOf_string_mk Tryz.underlying9 (by show a.length≤maxLen; unfold maxLen; omega)
 isKey _:=trivial
 inj a b _ _ h:=by injection h
 hz w:=Tryz.zeroValue3 w
 za:=by decide
 hR v hv:=plainElem_int Tryz.underlying3 (Gk hv.1 hv.2)
 hinv x v ps h:=by
  obtain ⟨a,rfl,h2,_⟩:=plainElem_int_inv Tryz.underlying3 h
  simp only [Prod.mk.injEq,DataW.lit.injEq,Lit.int.injEq,true_and] at h2
  rw [h2.1]
noncomputable def D0:BT Nat Bool where
 k:=3
 e:=4
 t:=76
 kv n:=.int .i64 (n:Int)
 kl n:=.int .i64 n
 ka n:=n≤4294967296
 ev b:=.bool b
 ea _:=True
 z:=false
 R v:=match v with | .bool x=>some (.lit (.bool x),[]) | _=>none
 code b:=.lit (.bool b)
 K:=Maps.int_keyed Tryz.underlying3
 ht:=Tryz.underlying76
 key a ha:=Maps.keyOf_int_mk Tryz.underlying3 (Gk (by omega) (by omega))
 isKey _:=trivial
 inj a b _ _ h:=by injection h with h1 h2; exact Int.ofNat.inj h2
 hz w:=Tryz.zeroValue4 w
 za:=trivial
 hR _ _:=rfl
 hinv x v ps h:=by
  split at h
  ·simp only [Option.some.injEq,Prod.mk.injEq,DataW.lit.injEq,Lit.bool.injEq] at h
   rw [h.1]
  ·cases h
abbrev lW:=Option Addr×Nat×Nat
def yX:Value→Option (DataW Unit×List MemPlace)
 | .slice none n c=>some (.agg [.nil,.lit (.int .i64 n),.lit (.int .i64 c)],[])
 | .slice (some ⟨g,o,none⟩) n c=>some (.agg [.lit (.int .i64 g),.lit (.int .i64 n),.lit (.int .i64 c),.lit (.int .i64 o)],[])
 | _=>none
noncomputable def IW:BT Nat lW where
 k:=3
 e:=22
 t:=129
 kv n:=.int .i64 (n:Int)
 kl n:=.int .i64 n
 ka n:=n≤4294967296
 ev v:=.slice v.1 v.2.1 v.2.2
 ea v:=∀ a,v.1=some a→a.spot=none
 z:=(none,0,0)
 R:=yX
 code v:=match v.1 with
  | none=>.agg [.nil,.lit (.int .i64 v.2.1),.lit (.int .i64 v.2.2)]
  | some ⟨g,o,none⟩=>.agg [.lit (.int .i64 g),.lit (.int .i64 v.2.1),.lit (.int .i64 v.2.2),.lit (.int .i64 o)]
  | some ⟨_,_,some _⟩=>.agg []
 K:=Maps.int_keyed Tryz.underlying3
 ht:=Tryz.underlying129
 key a ha:=Maps.keyOf_int_mk Tryz.underlying3 (Gk (by omega) (by omega))
 isKey _:=trivial
 inj a b _ _ h:=by injection h with h1 h2; exact Int.ofNat.inj h2
 hz w:=Tryz.zeroValue22 w
 za a h:=by cases h
 hR v hv:=by
  obtain ⟨A,n,c⟩:=v
  cases A with
  | none=>rfl
  | some a=>
   obtain ⟨g,o,s⟩:=a
   obtain rfl:s=none:=hv _ rfl
   rfl
 hinv x v ps h:=by
  obtain ⟨A,n,c⟩:=v
  unfold yX at h
  split at h
  ·cases A with
   | none=>simp at h; simp; omega
   | some a=>
    obtain ⟨g,o,s⟩:=a
    cases s <;> simp at h
  ·cases A with
   | none=>simp at h
   | some a=>
    obtain ⟨g,o,s⟩:=a
    cases s with
    | none=>simp at h; simp; omega
    | some s=>simp at h
  ·cases h
def EA:Op→Bool
 | .makeMap _ _=>true
 | _=>false
def Ce:Op→Bool
 | .lookup _ _ _ _=>true
 | _=>false
def EN:Op→Bool
 | .mapUpdate _ _ _ _=>true
 | _=>false
def Th.all (us:List Th):Th:=⟨fun k=>∃ u∈us,u.F k,fun w=>∀ u∈us,u.P w,fun w w' h hs hk u hu=>u.fr w w' (h u hu) hs fun k hf hl=>hk k ⟨u,hu,hf⟩ hl⟩
theorem Ac.erase {b:Nat} {w:World} {L:List Th} (h:Ac b w L) (j:Nat):Ac b w (L.eraseIdx j):=by
 have hg:∀ (i:Nat) (t:Th),(L.eraseIdx j)[i]?=some t→L[if i < j then i else i + 1]?=some t:=fun i t ht=>by
  rw [List.getElem?_eraseIdx] at ht
  split at ht <;> rename_i hij
  ·rw [if_pos hij]; exact ht
  ·rw [if_neg hij]; exact ht
 refine ⟨h.base,fun i t ht=>h.all _ t (hg i t ht),fun i t ht=>h.lo _ t (hg i t ht),fun i k s t hs ht a=>h.apart _ _ s t (hg i s hs) (hg k t ht) fun c=>a ?_⟩
 split at c <;> split at c <;> omega
theorem Ac.absorb {β:Type} {b:Nat} {w:World} {L:List Th} (h:Ac b w L) (i j:Nat) (f:β→Th) (xs l:List β) (x:β) (hi:L[i]?=some (Th.all (xs.map f))) (v:L[j]?=some (f x)) (g0:i≠j) (hy:∀ z,z∈l↔z=x∨z∈xs):Ac b w ((L.set i (Th.all (l.map f))).eraseIdx j):=by
 have hl:i < L.length:=(List.getElem?_eq_some_iff.1 hi).1
 have c:∀ k,(Th.all (l.map f)).F k→(Th.all (xs.map f)).F k∨(f x).F k:=fun k ⟨u,hu,hf⟩=>by
  obtain ⟨z,hz,rfl⟩:=List.mem_map.1 hu
  rcases (hy z).1 hz with rfl | hz
  ·exact .inr hf
  ·exact .inl ⟨_,List.mem_map.2 ⟨z,hz,rfl⟩,hf⟩
 have hP:(Th.all (l.map f)).P w:=fun u hu=>by
  obtain ⟨z,hz,rfl⟩:=List.mem_map.1 hu
  rcases (hy z).1 hz with rfl | hz
  ·exact h.all j _ v
  ·exact h.all i _ hi _ (List.mem_map.2 ⟨z,hz,rfl⟩)
 have hg:∀ (q:Nat) (t:Th),((L.set i (Th.all (l.map f))).eraseIdx j)[q]?=some t→∃ a,a≠j∧a=(if q < j then q else q + 1)∧((a=i∧t=Th.all (l.map f))∨(a≠i∧L[a]?=some t)):=fun q t ht=>by
  rw [List.getElem?_eraseIdx] at ht
  refine ⟨_,?_,rfl,?_⟩
  ·split <;> omega
  ·split at ht <;> rename_i hq <;> simp only [hq,if_true,if_false] <;> rw [List.getElem?_set] at ht <;> split at ht
   ·rename_i he; exact .inl ⟨he.symm,(Option.some.inj ht).symm⟩
   ·rename_i he; exact .inr ⟨fun e=>he e.symm,ht⟩
   ·rename_i he; exact .inl ⟨he.symm,(Option.some.inj ht).symm⟩
   ·rename_i he; exact .inr ⟨fun e=>he e.symm,ht⟩
 refine ⟨h.base,fun q t ht=>?_,fun q t ht k hf=>?_,fun p q s t hs ht b0 k hf g=>?_⟩
 ·obtain ⟨a,_,_,⟨_,rfl⟩ | ⟨_,h2⟩⟩:=hg q t ht
  ·exact hP
  ·exact h.all _ _ h2
 ·obtain ⟨a,_,_,⟨_,rfl⟩ | ⟨_,h2⟩⟩:=hg q t ht
  ·rcases c k hf with d | d
   ·exact h.lo i _ hi k d
   ·exact h.lo j _ v k d
  ·exact h.lo _ _ h2 k hf
 ·obtain ⟨r,e0,d0,c0⟩:=hg p s hs
  obtain ⟨a,a0,y,m⟩:=hg q t ht
  have n:r≠a:=fun e=>b0 (by rw [d0,y] at e; split at e <;> split at e <;> omega)
  rcases c0 with ⟨e1,rfl⟩ | ⟨e1,h1⟩
  ·rcases m with ⟨o,_⟩ | ⟨o,h2⟩
   ·exact n (e1.trans o.symm)
   ·rcases c k hf with d | d
    ·exact h.apart i a _ _ hi h2 (fun e=>o e.symm) k d g
    ·exact h.apart j a _ _ v h2 (fun e=>a0 e.symm) k d g
  ·rcases m with ⟨o,rfl⟩ | ⟨o,h2⟩
   ·rcases c k g with d | d
    ·exact h.apart i r _ _ hi h1 (fun e=>e1 e.symm) k d hf
    ·exact h.apart j r _ _ v h1 (fun e=>e0 e.symm) k d hf
   ·exact h.apart r a _ _ h1 h2 n k hf g
theorem Wk.take {β:Type} {w0 w:World} {M:List Az} {L T:List Th} (K:Wk w0 w M L T) (i j:Nat) (f:β→Th) (xs a:List β) (x:β) (hi:L[i]?=some (Th.all (xs.map f))) (d:L[j]?=some (f x)) (g:i≠j) (e:∀ z,z∈a↔z=x∨z∈xs):Wk w0 w M ((L.set i (Th.all (a.map f))).eraseIdx j) T:=by
 have b:j < L.length:=(List.getElem?_eq_some_iff.1 d).1
 have c:i < L.length:=(List.getElem?_eq_some_iff.1 hi).1
 refine ⟨K.B,?_⟩
 have h:=K.H.absorb (K.ix i) (K.ix j) f xs a x (K.at i hi) (K.at j d) (by unfold Wk.ix; omega) e
 unfold Wk.ix at h
 rw [List.set_append,if_neg (by simp),List.length_map,Nat.add_sub_cancel_left,List.set_append,if_pos c,List.eraseIdx_append_of_length_le (by simp),List.length_map,Nat.add_sub_cancel_left,List.eraseIdx_append_of_lt_length (by rw [List.length_set]; exact b)] at h
 exact h
end Go.Proofs.YtkjbdagicjbjjaaGreat
namespace Go.Proofs.YtkjbdagicjbjjaaGreat
open Go.RowKit
set_option maxRecDepth 100000
set_option maxHeartbeats 1000000
attribute [local irreducible] A8 BL AC AD AF Ao AY AL Aq Bb Cn BR BK At Fr
def RN (m:List (List UInt8×Int)) (p1:List UInt8) (p2:Int):List (List UInt8×Int):=cond (!((AO m p1).isSome)) ((p1,p2) :: m) (m)
theorem VR (m:List (List UInt8×Int)) (s:List UInt8) (n:Int):(RN m s n).length≤m.length + 1:=by
 unfold RN
 cases !(AO m s).isSome <;> simp
end Go.Proofs.YtkjbdagicjbjjaaGreat
namespace Go.Proofs.YtkjbdagicjbjjaaGreat
open Go.RowKit
set_option maxRecDepth 100000
set_option maxHeartbeats 600000
theorem N6 {α:Type} {a:α→List Value→Prop}:∀ {l l':List α} {rs b:List (List Value)},EF a l rs→EF a l' b→EF a (l++l') (rs++b)
 | [],_,[],_,_,h=>h
 | [],_,_ :: _,_,h,_=>h.elim
 | _ :: _,_,[],_,h,_=>h.elim
 | _ :: _,_,_ :: _,_,k,h=>⟨k.1,N6 k.2 h⟩
theorem Dj {α:Type} {f:α→List Value}:∀ (l:List α),EF (fun e r=>r=f e) l (l.map f)
 | []=>trivial
 | _ :: l=>⟨rfl,Dj l⟩
abbrev R8 (A:Option Addr) (c:Nat) (l:List (Int×Int×Int)):Th:=Th.row 101 3 (fun e r=>r=Hm e) A c l
theorem Ac.entRow {α:Type} {b:Nat} {w:World} {L:List Th} (h:Ac b w L) (i:Nat) {g:Nat} {T:TypeId} {n:Nat} (a:α→List Value→Prop) (hi:L[i]?=some (Th.ent ⟨g,0,[],T,true⟩)):Ac b w (L.set i (Th.row T n a (IN g) 0 [])):=by
 have hg:Az.good w ⟨g,0,[],T,true⟩:=h.all i _ hi
 refine h.set i hi (Nat.le_refl _) ⟨[],trivial,by simp,.inr ⟨g,0,#[],rfl,Nat.zero_le _,?_,Nat.le_refl _,Nat.zero_le _,by simp,by simp⟩⟩ (fun k c=>?_) (fun _ _ _=>rfl)
 ·have:=hg.2
  rw [if_pos rfl] at this
  exact this.1
 ·obtain rfl:g=k:=by have:=Option.some.inj c; injection this
  exact ⟨hg.1,.inl rfl⟩
section
variable {P:Program} {fi:FuncId} {R:Ending→World→Prop}
theorem Q9 {α:Type} {T:TypeId} {n:Nat} {e:α→List Value→Prop} {b:Nat} {A:Option Addr} {c:Nat} {l:List α} {L:List Th} {w:World} {k:Nat} {td:List Item} {E:Nat→Value} (H:Ac b w L) (i:Nat) (hi:L[i]?=some (Th.row T n e A c l)) (es:List α) (rows:List (List Value)) (v:EF e es rows) (ad:Addr) (cx:Nat)
  (b0:∀ j u,rows.flatten[j]?=some u→w.cell? (ad.add j)=some u) (o:Oper) (hc:Fx k E td=some o) (s x:Operand) (t:TypeId) (ho:o.op=.call { callee:=.builtin .append,args:=#[s,x],argTypes:=#[t,t] })
  (ht:P.underlying t=some (.slice T)) (a:(P.info? T).map (fun i=>(i.zero.map (·.cells.size),i.size,Nat.ble i.bytes 1024))=some (some n,n,true)) (i0:0 < n)
  (hs:Ax k E s=.slice A l.length c) (hx:Ax k E x=.slice (some ad) es.length cx) (hn:∀ r∈rows,r.length=n) (h1:∀ r∈rows,r.all (·.oneCell')=true) (e0:l.length + es.length≤100000000000)
  (hk:∀ g m w',Ac b w' (L.set i (Th.row T n e g m (l++es)))→Below b w w'→At P fi R (AC td) (Fr k (Aq E o.dst (.slice g (l++es).length m))) w'):At P fi R td (Fr k E) w:=by
 obtain ⟨rs,j0,hP⟩:(Th.row T n e A c l).P w:=H.all i _ hi
 obtain ⟨d,l0,z,hz,g0,y,n0⟩:∃ d,P.info? T=some d∧∃ z,d.zero=some z∧z.cells.size=n∧d.size=n∧d.bytes≤1024:=by
  cases hi:P.info? T with
  | none=>rw [hi] at a; cases a
  | some d=>
   rw [hi] at a
   simp only [Option.map_some,Option.some.injEq,Prod.mk.injEq,Option.map_eq_some_iff] at a
   obtain ⟨⟨z,h1,h2⟩,f,h4⟩:=a
   exact ⟨d,rfl,z,h1,h2,f,Nat.le_of_ble_eq_true h4⟩
 have p0:l.length + es.length≤maxLen:=by unfold maxLen; omega
 have p:(l.length + es.length) * d.bytes≤140737488355328:=Nat.le_trans (Nat.mul_le_mul e0 n0) (by decide)
 have m0:∀ q:List (List Value),(∀ r∈q,r.length=n)→q.flatten.length=q.length * n:=fun q=>by
  induction q with
  | nil=>intro _; simp
  | cons r q ih=>intro h; rw [List.flatten_cons,List.length_append,ih (fun r hr=>h r (by simp [hr])),h r (by simp),List.length_cons,Nat.succ_mul]; omega
 obtain ⟨v',w',hr,h2,f,_,h5⟩:=run_append_own_at (P:=P) (w:=w) 0 t o.type T d z n d.bytes ht l0 hz y rfl g0 i0 _ _ _ hP ad es.length cx rows.flatten (by rw [m0 rows hn,FO v]) b0 (fun u hu=>by obtain ⟨r,hr,hu⟩:=List.mem_flatten.1 hu; exact List.all_eq_true.1 (h1 r hr) u hu) p0 p (Nat.zero_le _)
 have hv:∃ g m,v'=.slice g (l.length + es.length) m:=by
  rcases h2.2 with ⟨f,h0⟩ | ⟨g',cap,q0,rfl,_⟩
  ·exact ⟨none,0,by rw [f,h0]⟩
  ·exact ⟨_,cap,rfl⟩
 obtain ⟨g,m,rfl⟩:=hv
 have d0:(Th.row T n e g m (l++es)).P w':=⟨rs++rows,N6 j0 v,by
  rw [List.length_append,List.flatten_append]
  exact h2⟩
 have hF:∀ q,(Th.row T n e g m (l++es)).F q→q < w'.heap.size∧((Th.row T n e A c l).F q∨w.heap.size≤q):=fun q hq=>by
  have a0:(Value.slice g (l.length + es.length) m).ownBlock=some q:=by rw [show g=IN q from hq]; rfl
  refine ⟨(JP h2 a0).2,?_⟩
  rcases h5 with h5 | h5
  ·exact .inl (Cw hP (h5.symm.trans a0)).1
  ·right
   have:q=w.heap.size:=Option.some.inj (a0.symm.trans h5)
   omega
 have c0:∀ q,q < w.heap.size→¬ (Th.row T n e A c l).F q→w'.heap[q]?=w.heap[q]?:=fun q hq k0=>f.block q hq fun he=>k0 (Cw hP he.symm).1
 have H':Ac b w' (L.set i (Th.row T n e g m (l++es))):=H.set i hi f.size d0 hF c0
 have hB:Below b w w':=⟨f.os,f.tape,f.output,f.size,fun q hq=>f.block q (Nat.lt_of_lt_of_le hq H.base) fun he=>by
  have:=(H.lo i _ hi q (Cw hP he.symm).1).1
  omega⟩
 unfold Fx at hc
 split at hc
 ·rename_i ops i' r k'
  split at hc
  ·rename_i o' ho'
   split at hc
   ·rename_i hw
    obtain rfl:=Option.some.inj hc
    refine FZ ho' (by rw [FE]; exact hw) ?_
    unfold Oper.wp execOp
    rw [Db]
    simp only [ho,resolve,invoke,builtin,Sem.run_bind,Sem.run_pure,Result.andThen_ok,List.map_toArray,List.map_cons,List.map_nil,hs,hx,hr]
    show wpOps P ops _ r ((Fr k E).put o'.dst (.slice g (l.length + es.length) m)) w'
    rw [EJ]
    have:=hk _ _ w' H' hB
    rw [List.length_append] at this
    exact this
   ·cases hc
  ·cases hc
 ·cases hc
end
theorem jf {n:Nat} {w:World} {g off:Nat} {rs:List (List Value)} (hn:∀ r∈rs,r.length=n) (hc:∀ (i:Nat) r,rs[i]?=some r→∀ (j:Nat) u,r[j]?=some u→w.cell? ⟨g,off + i * n + j,none⟩=some u):∀ j u,rs.flatten[j]?=some u→w.cell? ((⟨g,off,none⟩:Addr).add j)=some u:=by
 have key:∀ (rs:List (List Value)) (o:Nat),(∀ r∈rs,r.length=n)→(∀ (i:Nat) r,rs[i]?=some r→∀ (j:Nat) u,r[j]?=some u→w.cell? ⟨g,o + i * n + j,none⟩=some u)→∀ j u,rs.flatten[j]?=some u→w.cell? ⟨g,o + j,none⟩=some u:=by
  intro rs
  induction rs with
  | nil=>intro o _ _ j u h; simp at h
  | cons r rs ih=>
   intro o hn hc j u h
   rw [List.flatten_cons] at h
   have hr:r.length=n:=hn r (by simp)
   rcases D8 h with a | ⟨a,h2⟩
   ·have:=hc 0 r rfl j u a
    simpa using this
   ·have:=ih (o + n) (fun r hr=>hn r (by simp [hr])) (fun i r hi j u hu=>by
     have:=hc (i + 1) r (by simpa using hi) j u hu
     rw [Nat.succ_mul] at this
     rw [show o + n + i * n + j=o + (i * n + n) + j by omega]
     exact this) (j - r.length) u h2
    rw [show o + n + (j - r.length)=o + j by omega] at this
    exact this
 intro j u h
 have:=key rs off hn hc j u h
 unfold Addr.add
 split
 ·rename_i hj; subst hj; exact this
 ·simpa using this
theorem ID {n:Nat} {w:World} {b:Addr} {rs:List (List Value)} (h:DI Ca w n (some b) rs) (hn:∀ r∈rs,r.length=n):∀ j u,rs.flatten[j]?=some u→w.cell? (b.add j)=some u:=by
 rcases h with h | ⟨d,a,c,_,hg,hc⟩
 ·subst h
  intro j u hu
  simp at hu
 ·obtain rfl:=Option.some.inj c
  exact jf hn fun i r hi j u hu=>hc i r hi j u hu
end Go.Proofs.YtkjbdagicjbjjaaGreat
namespace Go.Proofs.YtkjbdagicjbjjaaGreat
open Go.RowKit
set_option maxRecDepth 100000
set_option maxHeartbeats 1000000
attribute [local irreducible] A8 BL AC AD AF Ao AY AL Aq Bb Cn BR BK At Fr
end Go.Proofs.YtkjbdagicjbjjaaGreat
namespace Go.Proofs.YtkjbdagicjbjjaaGreat
open Go.RowKit
set_option maxRecDepth 100000
set_option maxHeartbeats 600000
theorem Ac.mono {b a:Nat} {w:World} {L:List Th} (h:Ac b w L) (hb:a≤b):Ac a w L:=
 ⟨Nat.le_trans hb h.base,h.all,fun i t ht k hf=>⟨Nat.le_trans hb (h.lo i t ht k hf).1,(h.lo i t ht k hf).2⟩,h.apart⟩
section
variable {P:Program} {α:Type} {T:TypeId} {n:Nat} {rel:α→List Value→Prop} {b:Nat} {A:Option Addr} {c:Nat} {l:List α} {L:List Th} {w:World} {k:Nat} {E:Nat→Value}
theorem N8 (H:Ac b w L) (i:Nat) (hi:L[i]?=some (Th.row T n rel A c l)) (e:α) (row:List Value) (a0:rel e row) (g:Nat)
  (y:Az.good w ⟨g,0,row,T,true⟩) (o:Oper) (s x:Operand) (t:TypeId) (ho:o.op=.call { callee:=.builtin .append,args:=#[s,x],argTypes:=#[t,t] })
  (ht:P.underlying t=some (.slice T)) (a:(P.info? T).map (fun i=>(i.zero.map (·.cells.size),i.size,Nat.ble i.bytes 1024))=some (some n,n,true)) (e0:0 < n)
  (hs:Ax k E s=.slice A l.length c) (hx:Ax k E x=.slice (IN g) 1 1) (hn:row.length=n) (h1:row.all (·.oneCell')=true) (b0:l.length + 1≤100000000000) :
  ∃ A' c' w',(execOp (Ax k E) o).run P w=.ok (.value (.slice A' (l++[e]).length c')) w'∧Ac b w' (L.set i (Th.row T n rel A' c' (l++[e])))∧Below b w w':=by
 obtain ⟨rs,g0,hP⟩:(Th.row T n rel A c l).P w:=H.all i _ hi
 obtain ⟨d,j0,z,hz,d0,p,k0⟩:∃ d,P.info? T=some d∧∃ z,d.zero=some z∧z.cells.size=n∧d.size=n∧d.bytes≤1024:=by
  cases hi:P.info? T with
  | none=>rw [hi] at a; cases a
  | some d=>
   rw [hi] at a
   simp only [Option.map_some,Option.some.injEq,Prod.mk.injEq,Option.map_eq_some_iff] at a
   obtain ⟨⟨z,h1,h2⟩,m,h4⟩:=a
   exact ⟨d,rfl,z,h1,h2,m,Nat.le_of_ble_eq_true h4⟩
 have l0:l.length + 1≤maxLen:=by unfold maxLen; omega
 have h:(l.length + 1) * d.bytes≤140737488355328:=Nat.le_trans (Nat.mul_le_mul b0 k0) (by decide)
 have v:∀ j u,row[j]?=some u→w.cell? ((⟨g,0,none⟩:Addr).add j)=some u:=fun j u hu=>by
  have c0:(⟨g,0,none⟩:Addr).add j=⟨g,j,none⟩:=by
   unfold Addr.add
   split
   ·rename_i hj; rw [hj]
   ·simp
  rw [c0]
  exact EH y hu rfl (by show j=0 + j; omega) rfl
 obtain ⟨v',w',hr,h2,m,_,h5⟩:=run_append_own_at (P:=P) (w:=w) 0 t o.type T d z n d.bytes ht j0 hz p rfl d0 e0 _ _ _ hP ⟨g,0,none⟩ 1 1 row (by rw [hn,Nat.one_mul]) v (fun u hu=>List.all_eq_true.1 h1 u hu) l0 h (Nat.zero_le _)
 have hv:∃ f c',v'=.slice (IN f) (l.length + 1) c':=by
  rcases h2.2 with ⟨_,h0⟩ | ⟨f,cap,m0,rfl,_⟩
  ·omega
  ·exact ⟨f,cap,rfl⟩
 obtain ⟨f,c',rfl⟩:=hv
 refine ⟨IN f,c',w',?_,H.set i hi m.size ⟨rs++[row],MZ a0 g0,?_⟩ (fun q hq=>?_) (fun q hq i0=>m.block q hq fun he=>i0 (Cw hP he.symm).1),⟨m.os,m.tape,m.output,m.size,fun q hq=>m.block q (Nat.lt_of_lt_of_le hq H.base) fun he=>?_⟩⟩
 ·unfold execOp
  simp only [ho,resolve,invoke,builtin,Sem.run_bind,Sem.run_pure,Result.andThen_ok,List.map_toArray,List.map_cons,List.map_nil,hs,hx,hr]
  rw [List.length_append,List.length_singleton]
 ·rw [List.length_append,List.length_singleton,List.flatten_append]
  simpa using h2
 ·have r:some (⟨f,0,none⟩:Addr)=IN q:=hq
  obtain rfl:f=q:=by injection r with r; injection r
  refine ⟨(JP h2 (g:=f) rfl).2,?_⟩
  rcases h5 with h5 | h5
  ·exact .inl (Cw hP (h5.symm.trans rfl)).1
  ·right
   have:f=w.heap.size:=Option.some.inj (show some f=some w.heap.size from h5)
   omega
 ·have:=(H.lo i _ hi q (Cw hP he.symm).1).1
  omega
end
section
variable {P:Program} {ops:Array Oper} {Q:Exit→Act→World→Prop} {md:Region.Mode} {n:Nat} {E:Nat→Value}
theorem H3 {a:Array Bool} {fuel i:Nat} {w w':World} {v:Value} (o:Oper) (hx:(execOp (Ax n E) o).run P w=.ok (.value v) w') (b:wpAny P md ops Q fuel (a.setIfInBounds i true) (Fr n (Aq E o.dst v)) w') (hr:Region.ready md ops a=[i]:=by kernel_rfl) (ho:ops[i]?=some o:=by kernel_rfl) (hg:o.guard=none:=by kernel_rfl):wpAny P md ops Q (fuel + 1) a (Fr n E) w:=by
 refine Jc hr ho hg ?_
 unfold Oper.wp
 rw [Db,hx]
 rw [← EJ] at b
 exact b
theorem LS {a:Array Bool} {fuel i:Nat} {w w':World} (o:Oper) (hr:Region.ready md ops a=[i]) (ho:ops[i]?=some o) (hg:o.guard=none)
  (hx:(execOp (Ax n E) o).run P w=.ok .skip w') (b:wpAny P md ops Q fuel (a.setIfInBounds i true) (Fr n (Aq E o.dst undef)) w'):wpAny P md ops Q (fuel + 1) a (Fr n E) w:=by
 refine Jc hr ho hg ?_
 unfold Oper.wp
 rw [Db,hx]
 rw [← EJ] at b
 exact b
end
section
variable {P:Program} {ops:Array Oper} {Q:Exit→Act→World→Prop} {md:Region.Mode} {n:Nat} {E:Nat→Value}
theorem I6 {b:Array Bool} {fuel i:Nat} {w:World} {v:Value} (o:Oper) (ho:ops[i]?=some o) (hg:o.guard=none) (hs:Region.noSelect ops=true) (hf:Region.free md ops b i=true) (hr:(Region.ready md ops b).contains i=true)
  (hv:(DO P (execOp (Ax n E) o) ⟨0,[],(0,0),[]⟩).map (fun p=>(p.1,p.2.eqs))=some (.value v,[])) (g:∀ c a w,Q (.panic c) (a.put o.dst v) w→Q (.panic c) a w)
  (f:wpAny P md ops Q fuel (b.setIfInBounds i true) (Fr n (Aq E o.dst v)) w):wpAny P md ops Q (fuel + 1) b (Fr n E) w:=by
 refine wpAny_take ho hs hf hr g (.inl ⟨?_,fun u=>?_⟩) (by rw [EJ]; exact f)
 ·unfold Region.wanted
  rw [hg]
 ·rw [Db]
  cases hl:DO P (execOp (Ax n E) o) ⟨0,[],(0,0),[]⟩ with
  | none=>rw [hl] at hv; cases hv
  | some p=>
   obtain ⟨r,h⟩:=p
   rw [hl] at hv
   simp only [Option.map_some,Option.some.injEq,Prod.mk.injEq] at hv
   obtain ⟨rfl,h2⟩:=hv
   exact Fb _ _ _ _ hl (fun e he=>by cases he) (fun q d=>by rw [h2] at d; cases d)
end
theorem Ac.addFam {β:Type} {b:Nat} {w:World} {L:List Th} (h:Ac b w L) (f:β→Th):Ac b w (L++[Th.all (([]:List β).map f)]):=
 h.add _ (fun u hu=>by simp at hu) (fun k ⟨u,hu,_⟩=>by simp at hu)
theorem Wk.addFam {β:Type} {w0 w:World} {M:List Az} {L T:List Th} (K:Wk w0 w M L T) (f:β→Th):Wk w0 w M (L++[Th.all (([]:List β).map f)]) T:=K.join (Below.refl _ _) ((Ac.nil (Nat.le_refl _)).addFam f)
end Go.Proofs.YtkjbdagicjbjjaaGreat
namespace Go.Proofs.YtkjbdagicjbjjaaGreat
open Go.RowKit
set_option maxRecDepth 100000
set_option maxHeartbeats 1000000
attribute [local irreducible] A8 BL AC AD AF Ao AY AL Aq Bb Cn BR BK At Fr
theorem JG {ds:List Df} {p1:Int}:∀ (es:List Df) (i:Nat) (a:List Nat),(∀ x∈a,x < i)→∀ x∈Ci ds p1 es i a,x < i + es.length
 | [],i,a,h=>fun x hx=>by rw [Ci] at hx; exact h x hx
 | e :: es,i,a,h=>fun x hx=>by
  rw [Ci] at hx
  rw [List.length_cons]
  revert hx
  cases (cond (cond (e.kind == 1) (true) (e.kind == 5)) (true) (cond (decide (e.frm≤p1)) (!(DL ds p1 i)) (false))) <;> intro hx
  ·have:=JG es (i + 1) a (fun x hx=>Nat.lt_succ_of_lt (h x hx)) x hx
   omega
  ·have:=JG es (i + 1) (a++[i]) (fun x hx=>by
    rcases List.mem_append.1 hx with hx | hx
    ·exact Nat.lt_succ_of_lt (h x hx)
    ·rw [List.mem_singleton.1 hx]; exact Nat.lt_succ_self i) x hx
   omega
theorem JF {ds:List Df} {p1:Int}:∀ (es:List Df) (i:Nat) (a:List Nat),(Ci ds p1 es i a).length≤a.length + es.length
 | [],i,a=>by rw [Ci]; exact Nat.le_refl _
 | e :: es,i,a=>by
  rw [Ci,List.length_cons]
  cases (cond (cond (e.kind == 1) (true) (e.kind == 5)) (true) (cond (decide (e.frm≤p1)) (!(DL ds p1 i)) (false)))
  ·have:=JF (ds:=ds) (p1:=p1) es (i + 1) a
   exact Nat.le_trans this (by omega)
  ·have:=JF (ds:=ds) (p1:=p1) es (i + 1) (a++[i])
   rw [List.length_append,List.length_singleton] at this
   exact Nat.le_trans this (by omega)
theorem EI {ds:List Df} {p1:Int}:∀ x∈An ds p1,x < ds.length:=fun x hx=>by
 have:=JG ds 0 [] (fun x hx=>by cases hx) x hx
 omega
theorem Iw {ds:List Df} {p1:Int}:(An ds p1).length≤ds.length:=by
 have:=JF (ds:=ds) (p1:=p1) ds 0 []
 simpa [An] using this
theorem Fm {n:List UInt8} {ds:List Df} {p1:Int}:∀ x∈C3 n ds p1,x < ds.length:=fun x hx=>by
 unfold C3 at hx
 revert hx
 cases !(DF n ds p1 == 0) <;> intro hx
 ·exact EI x hx
 ·cases hx
theorem XG {n:List UInt8} {ds:List Df} {p1:Int}:(C3 n ds p1).length≤ds.length:=by
 unfold C3
 cases !(DF n ds p1 == 0)
 ·exact Iw
 ·exact Nat.zero_le _
end Go.Proofs.YtkjbdagicjbjjaaGreat
namespace Go.Proofs.YtkjbdagicjbjjaaGreat
open Go.RowKit
set_option maxRecDepth 100000
set_option maxHeartbeats 600000
theorem HW {n q:Nat} {v:Value} (b:q < n):∀ {rs:List (List Value)} {j:Nat} {r:List Value},(∀ r∈rs,r.length=n)→rs[j]?=some r→(rs.set j (r.set q v)).flatten=rs.flatten.set (j * n + q) v
 | [],j,r,_,h=>by simp at h
 | r0 :: rs,0,r,hn,h=>by
  simp at h
  subst h
  have:=hn r0 (by simp)
  rw [List.set_cons_zero,List.flatten_cons,List.flatten_cons,Nat.zero_mul,Nat.zero_add,List.set_append,if_pos (by omega)]
 | r0 :: rs,j + 1,r,hn,h=>by
  have a:=hn r0 (by simp)
  have:=HW b (fun r hr=>hn r (by simp [hr])) (show rs[j]?=some r by simpa using h) (v:=v)
  rw [List.set_cons_succ,List.flatten_cons,List.flatten_cons,this,List.set_append,if_neg (by rw [a,Nat.succ_mul]; omega),a,show (j + 1) * n + q - n=j * n + q by rw [Nat.succ_mul]; omega]
def WC (n:Nat) (E:Nat→Value) (todo:List Item):Option (TypeId×Value×Value×Option Tmp):=match Fx n E todo with
 | some o=>match o.op with
  | .store t x y=>some (t,Ax n E x,Ax n E y,o.dst)
  | _=>none
 | none=>none
section
variable {P:Program} {fi:FuncId} {R:Ending→World→Prop}
theorem lR {α:Type} {T:TypeId} {n:Nat} {f:α→List Value→Prop} {b g c:Nat} {l:List α} {L:List Th} {w:World} {k:Nat} {td:List Item} {E:Nat→Value} (H:Ac b w L) (i:Nat) (hi:L[i]?=some (Th.row T n f (IN g) c l))
  (j:Nat) (e e':α) (he:l[j]?=some e) (q:Nat) (hq:q < n) (v:Value) (g0:∀ r,f e r→f e' (r.set q v)) (hn:∀ e r,f e r→r.length=n) (t:TypeId) (dst:Option Tmp)
  (hc:WC k E td=some (t,.pointer (some ⟨g,0 + j * n + q,none⟩),v,dst)) (j0:JO P t=some 1) (hv:v.cells.toList=[v]) (h1:v.oneCell'=true)
  (hk:∀ w',Ac b w' (L.set i (Th.row T n f (IN g) c (l.set j e')))→Below b w w'→w'.heap.size=w.heap.size→At P fi R (AC td) (Fr k (Aq E dst undef)) w'):At P fi R td (Fr k E) w:=by
 obtain ⟨rs,z,hP⟩:(Th.row T n f (IN g) c l).P w:=H.all i _ hi
 rcases hP.2 with ⟨h0,_⟩ | ⟨g',cap,d,hA,_,hg,i0,q0,d0,ht⟩
 ·cases h0
 obtain ⟨rfl,rfl⟩:g=g'∧c=cap:=by
  injection hA with e1 e2 e3
  injection e1 with e1
  injection e1 with e1
  exact ⟨e1,e3⟩
 have o:=Hx hn z
 have r0:rs.length=l.length:=FO z
 obtain ⟨r,hr,k0⟩:=JY z he
 have n0:j < l.length:=(List.getElem?_eq_some_iff.1 he).1
 have s0:j * n + q < l.length * n:=by
  have:(j + 1) * n≤l.length * n:=Nat.mul_le_mul_right n n0
  rw [Nat.succ_mul] at this
  omega
 have t0:l.length * n≤c * n:=Nat.mul_le_mul_right n i0
 have a0:(0 + j * n + q) + 0 + [v].length≤d.size:=by rw [d0]; simp; omega
 have s:=run_storeCells_at P g (0 + j * n + q) T [v] 0 d w hg a0 (fun u hu=>by rw [List.mem_singleton.1 hu]; exact h1)
 have b0:(d.toList.take ((0 + j * n + q) + 0)++[v]++d.toList.drop ((0 + j * n + q) + 0 + [v].length))=d.toList.set (j * n + q) v:=by
  rw [List.set_eq_take_append_cons_drop,if_pos (by rw [Array.length_toList,d0]; omega)]
  simp
 rw [b0] at s
 have c0:∀ m,m < w.heap.size→m≠g→(w.setRow g (d.toList.set (j * n + q) v).toArray).heap[m]?=w.heap[m]?:=fun m _ l0=>setRow_other w g m _ l0
 have a:(w.setRow g (d.toList.set (j * n + q) v).toArray).heap.size=w.heap.size:=by unfold World.setRow; simp
 have m0:=H.lo i _ hi g rfl
 have H':Ac b (w.setRow g (d.toList.set (j * n + q) v).toArray) (L.set i (Th.row T n f (IN g) c (l.set j e'))):=by
  refine H.set i hi (by rw [a]; exact Nat.le_refl _) (show (Th.row T n f (IN g) c (l.set j e')).P _ from ⟨rs.set j (r.set q v),Lf (g0 r k0) j z,?_,.inr ⟨g,c,_,by rw [List.length_set],Nat.zero_le _,setRow_heap w g d _ T _ hg,by rw [List.length_set]; exact i0,q0,by simp [d0],?_⟩⟩) (fun m h=>⟨?_,.inl h⟩) (fun m h hf=>c0 m h fun e=>hf (by rw [e]; rfl))
  ·have p0:=hP.1
   rw [HW hq o hr,List.length_set,List.length_set]
   exact p0
  ·rw [List.length_set,HW hq o hr,← ht,List.toList_toArray,List.take_set]
  ·obtain rfl:g=m:=by have:=Option.some.inj h; injection this
   rw [a]
   exact m0.2
 have hB:Below b w (w.setRow g (d.toList.set (j * n + q) v).toArray):=⟨rfl,rfl,rfl,by rw [a]; exact Nat.le_refl _,fun m h=>c0 m (Nat.lt_of_lt_of_le h H.base) (fun e=>by omega)⟩
 have p:=hk _ H' hB a
 unfold WC at hc
 split at hc
 ·rename_i op hcur'
  split at hc
  ·rename_i t' x y ho
   simp only [Option.some.injEq,Prod.mk.injEq] at hc
   obtain ⟨rfl,hx,hy,rfl⟩:=hc
   refine M1 op hcur' ?_ p
   have e0:v.cells.size=1:=by rw [← Array.length_toList,hv]; rfl
   clear H' hB hk p c0 a b0 a0
   generalize 0 + j * n + q=o9 at s hx
   generalize w.setRow g (d.toList.set (j * n + q) v).toArray=w9 at s ⊢
   unfold execOp
   simp only [ho,hx,hy]
   simp [Instr.storeAt,Instr.sureAddr,storeVar,Gs j0,hv,e0,s]
  ·cases hc
 ·cases hc
end
section
variable {P:Program} {ops:Array Oper} {Q:Exit→Act→World→Prop} {md:Region.Mode} {n:Nat} {E:Nat→Value}
theorem WY {a:Array Bool} {fuel i:Nat} {w:World} (o:Oper) (g:FuncId) (xs:List Operand) (args:List Value) {ats:Array TypeId} (hr:Region.ready md ops a=[i]) (ho:ops[i]?=some o) (b:o.guard=none)
  (hop:o.op=.call ⟨.value (.func g),xs.toArray,ats⟩) (ha:xs.map (Ax n E)=args) (hg:DG P g=true)
  (h:Calls P g args.toArray w fun e w'=>∃ v,e=.returned v∧wpAny P md ops Q fuel (a.setIfInBounds i true) (Fr n (Aq E o.dst v)) w'):wpAny P md ops Q (fuel + 1) a (Fr n E) w:=by
 refine Jc hr ho b ?_
 unfold Oper.wp
 rw [Db]
 have e:(execOp (Ax n E) o).run P w=.ok (.enter g args.toArray) w:=by
  rw [← CG (h:=hg) args.toArray w,← ha]
  obtain ⟨d,op,ty,f,m,k⟩:=o
  simp only at hop
  subst hop
  unfold execOp resolve
  simp only [List.map_toArray]
  show ((Deferred.ofValue (.func (.func g) #[] #[]) (xs.map (Ax n E)).toArray).bind fun d=>invoke d.target d.args).run P w=_
  unfold Deferred.ofValue
  simp [invoke,pure,Sem.bind]
 rw [e]
 refine h.mono fun l w' j=>?_
 obtain ⟨v,rfl,c⟩:=j
 show wpAny P md ops Q fuel _ ((Fr n E).put o.dst v) w'
 rw [EJ]
 exact c
end
abbrev Ym:=Int×Int×Int×Int×Int×Int
instance:Inhabited Ym:=⟨(0,0,0,0,0,0)⟩
def VM (l:List Ym) (i:Nat) (v:Int):List Ym:=l.set i ((l.getD i default).1,v,(l.getD i default).2.2)
theorem dQ (l:List Ym) (i:Nat) (v:Int):(VM l i v).length=l.length:=by unfold VM; rw [List.length_set]
theorem BT.below {α β:Type} [DecidableEq α] {S:BT α β} {b:Nat} {m:List (α×β)} {w w':World} (h:S.at b m w) (B:Below w.heap.size w w'):S.at b m w':=S.at_fr h fun hl=>B.block b hl
def sg:Op→Bool
 | .store _ _ _=>true
 | _=>false
end Go.Proofs.YtkjbdagicjbjjaaGreat
namespace Go.Proofs.YtkjbdagicjbjjaaGreat
open Go.RowKit
set_option maxRecDepth 100000
set_option maxHeartbeats 1000000
attribute [local irreducible] A8 BL AC AD AF Ao AY AL Aq Bb Cn BR BK At Fr
end Go.Proofs.YtkjbdagicjbjjaaGreat
namespace Go.Proofs.YtkjbdagicjbjjaaGreat
open Go.RowKit
set_option maxRecDepth 100000
set_option maxHeartbeats 1000000
attribute [local irreducible] A8 BL AC AD AF Ao AY AL Aq Bb Cn BR BK At Fr
section
variable (mi ms mp mr:List (List UInt8×Int))
end
section
variable (sw:Ex→Prop)
end
end Go.Proofs.YtkjbdagicjbjjaaGreat

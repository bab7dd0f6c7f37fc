/- Contracts of functions, part 18. -/
import Derived.Test.YtkjbdagicjbjjaaGreatTs17
import Derived.StringKeys
import Derived.Test.YtkjbdagicjbjjaaGreatTs04
import Derived.Test.YtkjbdagicjbjjaaGreatTs10
set_option linter.all false
namespace Go.Proofs.YtkjbdagicjbjjaaGreat
open Go.RowKit
set_option maxRecDepth 100000
set_option maxHeartbeats 1000000
set_option linter.unusedSectionVars false
structure Bc (α β:Type) where
 k:TypeId
 e:TypeId
 t:TypeId
 kv:α→Value
 kl:α→Lit
 ka:α→Prop
 ev:β→Value
 ea:β→Prop
 z:β
 R:Value→Option (DataW Unit×List MemPlace)
 code:β→DataW Unit
 K:Maps.Keyed Tryz.prog k
 ht:Tryz.prog.underlying t=some (.map k e)
 key:∀ a,ka a→keyOf Tryz.prog k (kv a)=some (kl a)
 isKey:∀ a,WideAt.IsKeyLit (kl a)
 inj:∀ a b,ka a→ka b→kl a=kl b→a=b
 hz:∀ w,(zeroValue e).run Tryz.prog w=.ok (ev z) w
 za:ea z
 hR:∀ v,ea v→R (ev v)=some (code v,[])
 hinv:∀ x v ps,R x=some (code v,ps)→x=ev v
section
variable {α β:Type} [DecidableEq α] (S:Bc α β)
def AH:List (α×β)→α→Option β
 | [],_=>none
 | p :: m,a=>if p.1=a then some p.2 else AH m a
def Bc.dat:List (α×β)→DataW Unit
 | []=>.map []
 | p :: m=>(Bc.dat m).put (S.kl p.1) (S.code p.2)
theorem Bc.dat_map:∀ m:List (α×β),Maps.IsMap (S.dat m)
 | []=>⟨[],rfl⟩
 | p :: m=>by
  obtain ⟨es,h⟩:=Bc.dat_map m
  unfold Bc.dat
  rw [h]
  exact ⟨_,rfl⟩
theorem Bc.dat_has:∀ (m:List (α×β)) (a:α),(∀ p∈m,S.ka p.1)→S.ka a→Maps.has (S.dat m) (S.kl a)=(AH m a).isSome
 | [],a,_,_=>rfl
 | p :: m,a,hm,ha=>by
  unfold Bc.dat AH
  by_cases h:p.1=a
  ·subst h
   rw [if_pos rfl,Maps.has_put_same (S.dat_map m) (S.isKey _)]
   rfl
  rw [if_neg h,Maps.has_put_other (fun e=>h (S.inj _ _ ha (hm p (by simp)) e).symm),Bc.dat_has m a (fun q b=>hm q (by simp [b])) ha]
theorem Bc.dat_at:∀ (m:List (α×β)) (a:α),(∀ p∈m,S.ka p.1)→S.ka a→(S.dat m).atKey (S.kl a) (S.code S.z)=S.code ((AH m a).getD S.z)
 | [],a,_,_=>rfl
 | p :: m,a,hm,ha=>by
  unfold Bc.dat AH
  by_cases h:p.1=a
  ·subst h
   rw [if_pos rfl,Maps.atKey_put_same (S.dat_map m) (S.isKey _)]
   rfl
  rw [if_neg h,Maps.atKey_put_other (fun e=>h (S.inj _ _ ha (hm p (by simp)) e).symm),Bc.dat_at m a (fun q b=>hm q (by simp [b])) ha]
def Bc.at (b:Nat) (m:List (α×β)) (w:World):Prop:=w.ownsMap Tryz.prog S.k S.R b m.length (S.dat m)∧∀ p∈m,S.ka p.1
theorem Bc.at_fr {b:Nat} {m:List (α×β)} {w w':World} (h:S.at b m w) (hb:b < (ε w)→w'.heap[b]?=w.heap[b]?):S.at b m w':=by
 have hl:=World.ownsMap.lt h.1
 obtain ⟨⟨es,a,d,h2⟩,c⟩:=h
 exact ⟨⟨es,a,(hb hl).trans d,h2⟩,c⟩
def Bc.th (b:Nat) (m:List (α×β)):Th:=⟨(·=b),S.at b m,fun _ _ h _ hk=>S.at_fr h (hk b rfl)⟩
theorem Bc.look {b:Nat} {m:List (α×β)} {w:World} (h:S.at b m w) (a:α) (ha:S.ka a):(Instr.lookup S.t (.map (some b)) (S.kv a) false).run Tryz.prog w=.ok (S.ev ((AH m a).getD S.z)) w:=by
 obtain ⟨v,d,c,h2⟩:=World.ownsMap.lookup h.1 S.K S.ht (S.hz w) (S.hR _ S.za) (S.key a ha)
 rw [S.dat_at m a h.2 ha] at h2
 rw [c,S.hinv _ _ _ h2]
theorem Bc.look2 {b:Nat} {m:List (α×β)} {w:World} (h:S.at b m w) (a:α) (ha:S.ka a):(Instr.lookup S.t (.map (some b)) (S.kv a) true).run Tryz.prog w=.ok (.tuple #[S.ev ((AH m a).getD S.z),ξ (AH m a).isSome]) w:=by
 obtain ⟨v,d,c,h2⟩:=World.ownsMap.look_ok h.1 S.K S.ht (S.hz w) (S.hR _ S.za) (S.key a ha)
 rw [S.dat_at m a h.2 ha] at h2
 rw [c,S.hinv _ _ _ h2,S.dat_has m a h.2 ha]
theorem Bc.store {b:Nat} {m:List (α×β)} {w:World} (h:S.at b m w) (a:α) (v:β) (ha:S.ka a) (hv:S.ea v) (hm:m.length < maxLen):∃ w',(Instr.mapUpdate S.t (.map (some b)) (S.kv a) (S.ev v)).run Tryz.prog w=.ok () w'∧S.at b ((a,v) :: m) w'∧w.grownBy w' (some b):=by
 obtain ⟨w',e,h2,d⟩:=World.ownsMap.update h.1 S.K S.ht hm (S.key a ha) (S.hR v hv)
 exact ⟨w',e,⟨h2,fun p c=>by rcases List.mem_cons.1 c with rfl | c; exact ha; exact h.2 p c⟩,d⟩
end
section
variable {α β:Type} [DecidableEq α] (S:Bc α β) {o:Oper} {ρ:Operand→Value} {w:World}
theorem F7 {t:TypeId} {x y:Operand} (hop:o.op=.lookup t x y false) (ht:t=S.t) {b:Nat} {m:List (α×β)} (hx:ρ x=.map (some b)) (a:α) (c:ρ y=S.kv a) (ha:S.ka a) (h:S.at b m w):(execOp ρ o).run Tryz.prog w=.ok (.value (S.ev ((AH m a).getD S.z))) w:=by
 subst ht
 have:=S.look h a ha
 unfold execOp
 simp only [hop,hx,c]
 rw [Sem.run_bind,this]
 rfl
theorem D6 {t:TypeId} {x y:Operand} (hop:o.op=.lookup t x y true) (ht:t=S.t) {b:Nat} {m:List (α×β)} (hx:ρ x=.map (some b)) (a:α) (c:ρ y=S.kv a) (ha:S.ka a) (h:S.at b m w):(execOp ρ o).run Tryz.prog w=.ok (.value (.tuple #[S.ev ((AH m a).getD S.z),ξ (AH m a).isSome])) w:=by
 subst ht
 have:=S.look2 h a ha
 unfold execOp
 simp only [hop,hx,c]
 rw [Sem.run_bind,this]
 rfl
end
section
variable {α β:Type} [DecidableEq α] (S:Bc α β) {fi:FuncId} {R:Ending→World→Prop} {k:Nat} {td:List Item} {E:Nat→Value} {b:Nat} {L:List Th} {w:World}
theorem TB {P:Program} {f:FuncId} {R:Ending→World→Prop} {n:Nat} {todo:List Item} {E:Nat→Value} {w w':World} (o:Oper) (hc:Hx n E todo=some o) (hx:(execOp (A8 n E) o).run P w=.ok .skip w') (h:At P f R (AC todo) (Fr n (Aw E o.dst undef)) w'):At P f R todo (Fr n E) w:=by
 unfold Hx at hc
 split at hc
 ·rename_i ops i r k
  split at hc
  ·rename_i o' ho
   split at hc
   ·rename_i hw
    obtain rfl:=Option.some.inj hc
    refine Gi ho (by rw [F1]; exact hw) ?_
    unfold Oper.wp
    rw [D7,hx]
    show wpOps P ops _ r ((Fr n E).put o'.dst undef) w'
    rw [El]
    exact h
   cases hc
  cases hc
 cases hc
theorem FV (H:Aj b w L) (o:Oper) (hc:Hx k E td=some o) {t:TypeId} (ho:o.op=.makeMap t none)
  (f:∀ w',w'.heap.size=w.heap.size + 1→Aj b w' (L++[S.th w.heap.size []])→Below b w w'→At Tryz.prog fi R (AC td) (Fr k (Aw E o.dst (.map (some w.heap.size)))) w'):At Tryz.prog fi R td (Fr k E) w:=by
 have hx:(execOp (A8 k E) o).run Tryz.prog w=.ok (.value (.map (some w.heap.size))) (w.alloc (.map #[] 0)):=by
  unfold execOp
  simp only [ho]
  rfl
 have d:Below w.heap.size w (w.alloc (.map #[] 0)):=⟨rfl,rfl,rfl,by simp,fun q a=>GX w _ q a⟩
 refine Rh o hc hx (f _ (by simp) (H.join d ⟨by simp,fun i t hi=>?_,fun i t hi q a=>?_,fun i j s t hi g c=>?_⟩) (d.mono H.base))
 ·cases i with
  | zero=>obtain rfl:=Option.some.inj hi; exact ⟨World.ownsMap_made w Tryz.prog S.k S.R,fun p e=>by cases e⟩
  | succ i=>simp at hi
 ·cases i with
  | zero=>
   obtain rfl:=Option.some.inj hi
   obtain rfl:q=w.heap.size:=a
   simp
  | succ i=>simp at hi
 cases i with
 | zero=>cases j with
  | zero=>exact absurd rfl c
  | succ j=>simp at g
 | succ i=>simp at hi
theorem GC (H:Aj b w L) (i:Nat) {g:Nat} {m:List (α×β)} (hi:L[i]?=some (S.th g m)) (a:α) (v:β) (ha:S.ka a) (hv:S.ea v) (o:Oper) (hc:Hx k E td=some o) {t:TypeId} {x y z:Operand} (ho:o.op=.mapUpdate t x y z) (ht:t=S.t)
  (hx:A8 k E x=.map (some g)) (f:A8 k E y=S.kv a) (hz:A8 k E z=S.ev v) (hm:m.length < 100000000000)
  (h:∀ w',Aj b w' (L.set i (S.th g ((a,v) :: m)))→Below b w w'→At Tryz.prog fi R (AC td) (Fr k (Aw E o.dst undef)) w'):At Tryz.prog fi R td (Fr k E) w:=by
 subst ht
 obtain ⟨w',j,h2,c⟩:=S.store (H.all i _ hi) a v ha hv (by unfold maxLen; omega)
 have hl:=(H.lo i _ hi g rfl)
 have e:(execOp (A8 k E) o).run Tryz.prog w=.ok .skip w':=by
  unfold execOp
  simp only [ho,hx,f,hz]
  rw [Sem.run_bind,j]
  rfl
 refine TB o hc e (h w' (H.set i hi c.size h2 (fun q d=>?_) (fun q d hf=>c.block q d fun he=>hf (Option.some.inj he))) ⟨c.os,c.tape,c.output,c.size,fun q d=>c.block q (Nat.lt_of_lt_of_le d H.base) fun he=>?_⟩)
 ·obtain rfl:q=g:=d
  exact ⟨World.ownsMap.lt h2.1,.inl rfl⟩
 have:=Option.some.inj he
 omega
end
theorem HW {a:Int} (b:-9223372036854775808≤a) (h2:a≤9223372036854775807):(Lit.int .i64 a).wf=true:=by
 have d:IntKind.i64.min=-9223372036854775808:=by decide
 have c:IntKind.i64.max=9223372036854775807:=by decide
 show (decide (IntKind.i64.min≤a) && decide (a≤IntKind.i64.max))=true
 rw [d,c,decide_eq_true b,decide_eq_true h2]
 rfl
noncomputable def FX:Bc (List UInt8) Int where
 k:=9
 e:=3
 t:=69
 kv s:=.string ⟨⟨s⟩⟩
 kl s:=.string s
 ka s:=s.length≤4294967296
 ev n:=.int .i64 n
 ea n:=-9223372036854775808≤n∧n≤9223372036854775807
 z:=0
 R:=plainElem Tryz.prog 3
 code n:=.lit (.int .i64 n)
 K:=Maps.string_keyed Tryz.underlying9
 ht:=Tryz.underlying69
 key a ha:=WideMaps.keyOf_string_mk Tryz.underlying9 (by show a.length≤maxLen; unfold maxLen; omega)
 isKey _:=trivial
 inj a b _ _ h:=by injection h
 hz w:=Tryz.zeroValue3 w
 za:=by decide
 hR v hv:=plainElem_int Tryz.underlying3 (HW hv.1 hv.2)
 hinv x v ps h:=by
  obtain ⟨a,rfl,h2,_⟩:=plainElem_int_inv Tryz.underlying3 h
  simp only [Prod.mk.injEq,DataW.lit.injEq,Lit.int.injEq,true_and] at h2
  rw [h2.1]
noncomputable def EJ:Bc Nat Bool where
 k:=3
 e:=4
 t:=76
 kv n:=.int .i64 (n:Int)
 kl n:=.int .i64 n
 ka n:=n≤4294967296
 ev b:=.bool b
 ea _:=True
 z:=false
 R v:=match v with | .bool x=>some (.lit (.bool x),[]) | _=>none
 code b:=.lit (.bool b)
 K:=Maps.int_keyed Tryz.underlying3
 ht:=Tryz.underlying76
 key a ha:=Maps.keyOf_int_mk Tryz.underlying3 (HW (by omega) (by omega))
 isKey _:=trivial
 inj a b _ _ h:=by injection h with h1 h2; exact Int.ofNat.inj h2
 hz w:=Tryz.zeroValue4 w
 za:=trivial
 hR _ _:=rfl
 hinv x v ps h:=by
  split at h
  ·simp only [Option.some.injEq,Prod.mk.injEq,DataW.lit.injEq,Lit.bool.injEq] at h
   rw [h.1]
  cases h
abbrev n8:=Option Addr×Nat×Nat
def slR:Value→Option (DataW Unit×List MemPlace)
 | .slice none n c=>some (.agg [.nil,.lit (.int .i64 n),.lit (.int .i64 c)],[])
 | .slice (some ⟨g,o,none⟩) n c=>some (.agg [.lit (.int .i64 g),.lit (.int .i64 n),.lit (.int .i64 c),.lit (.int .i64 o)],[])
 | _=>none
noncomputable def Iz:Bc Nat n8 where
 k:=3
 e:=22
 t:=129
 kv n:=.int .i64 (n:Int)
 kl n:=.int .i64 n
 ka n:=n≤4294967296
 ev v:=.slice v.1 v.2.1 v.2.2
 ea v:=∀ a,v.1=some a→a.spot=none
 z:=(none,0,0)
 R:=slR
 code v:=match v.1 with
  | none=>.agg [.nil,.lit (.int .i64 v.2.1),.lit (.int .i64 v.2.2)]
  | some ⟨g,o,none⟩=>.agg [.lit (.int .i64 g),.lit (.int .i64 v.2.1),.lit (.int .i64 v.2.2),.lit (.int .i64 o)]
  | some ⟨_,_,some _⟩=>.agg []
 K:=Maps.int_keyed Tryz.underlying3
 ht:=Tryz.underlying129
 key a ha:=Maps.keyOf_int_mk Tryz.underlying3 (HW (by omega) (by omega))
 isKey _:=trivial
 inj a b _ _ h:=by injection h with h1 h2; exact Int.ofNat.inj h2
 hz w:=Tryz.zeroValue22 w
 za a h:=by cases h
 hR v hv:=by
  obtain ⟨A,n,c⟩:=v
  cases A with
  | none=>rfl
  | some a=>
   obtain ⟨g,o,s⟩:=a
   obtain rfl:s=none:=hv _ rfl
   rfl
 hinv x v ps h:=by
  obtain ⟨A,n,c⟩:=v
  unfold slR at h
  split at h
  ·cases A with
   | none=>simp at h; simp; omega
   | some a=>
    obtain ⟨g,o,s⟩:=a
    cases s <;> simp at h
  ·cases A with
   | none=>simp at h
   | some a=>
    obtain ⟨g,o,s⟩:=a
    cases s with
    | none=>simp at h; simp; omega
    | some s=>simp at h
  cases h
def ES:Op→Bool
 | .makeMap _ _=>true
 | _=>false
def Cv:Op→Bool
 | .lookup _ _ _ _=>true
 | _=>false
def Eh:Op→Bool
 | .mapUpdate _ _ _ _=>true
 | _=>false
def Th.all (us:List Th):Th:=⟨fun k=>∃ u∈us,u.F k,fun w=>∀ u∈us,u.P w,fun w w' h hs hk u hu=>u.fr w w' (h u hu) hs fun k hf hl=>hk k ⟨u,hu,hf⟩ hl⟩
theorem Aj.erase {b:Nat} {w:World} {L:List Th} (h:Aj b w L) (j:Nat):Aj b w (L.eraseIdx j):=by
 have hg:∀ (i:Nat) (t:Th),(L.eraseIdx j)[i]?=some t→L[if i < j then i else i + 1]?=some t:=fun i t ht=>by
  rw [List.getElem?_eraseIdx] at ht
  split at ht <;> rename_i hij
  ·rw [if_pos hij]; exact ht
  rw [if_neg hij]; exact ht
 refine ⟨h.base,fun i t ht=>h.all _ t (hg i t ht),fun i t ht=>h.lo _ t (hg i t ht),fun i k s t hs ht a=>h.apart _ _ s t (hg i s hs) (hg k t ht) fun c=>a ?_⟩
 split at c <;> split at c <;> omega
theorem Aj.absorb {β:Type} {b:Nat} {w:World} {L:List Th} (h:Aj b w L) (i j:Nat) (f:β→Th) (xs l:List β) (x:β) (hi:L[i]?=some (Th.all (xs.map f))) (v:L[j]?=some (f x)) (g0:i≠j) (hy:∀ z,z∈l↔z=x∨z∈xs):Aj b w ((L.set i (Th.all (l.map f))).eraseIdx j):=by
 have hl:i < L.length:=(List.getElem?_eq_some_iff.1 hi).1
 have c:∀ k,(Th.all (l.map f)).F k→(Th.all (xs.map f)).F k∨(f x).F k:=fun k ⟨u,hu,hf⟩=>by
  obtain ⟨z,hz,rfl⟩:=List.mem_map.1 hu
  rcases (hy z).1 hz with rfl | hz
  ·exact .inr hf
  exact .inl ⟨_,List.mem_map.2 ⟨z,hz,rfl⟩,hf⟩
 have hP:(Th.all (l.map f)).P w:=fun u hu=>by
  obtain ⟨z,hz,rfl⟩:=List.mem_map.1 hu
  rcases (hy z).1 hz with rfl | hz
  ·exact h.all j _ v
  exact h.all i _ hi _ (List.mem_map.2 ⟨z,hz,rfl⟩)
 have hg:∀ (q:Nat) (t:Th),((L.set i (Th.all (l.map f))).eraseIdx j)[q]?=some t→∃ a,a≠j∧a=(if q < j then q else q + 1)∧((a=i∧t=Th.all (l.map f))∨(a≠i∧L[a]?=some t)):=fun q t ht=>by
  rw [List.getElem?_eraseIdx] at ht
  refine ⟨_,?_,rfl,?_⟩
  ·split <;> omega
  split at ht <;> rename_i hq <;> simp only [hq,if_true,if_false] <;> rw [List.getElem?_set] at ht <;> split at ht
  ·rename_i he; exact .inl ⟨he.symm,(Option.some.inj ht).symm⟩
  ·rename_i he; exact .inr ⟨fun e=>he e.symm,ht⟩
  ·rename_i he; exact .inl ⟨he.symm,(Option.some.inj ht).symm⟩
  rename_i he; exact .inr ⟨fun e=>he e.symm,ht⟩
 refine ⟨h.base,fun q t ht=>?_,fun q t ht k hf=>?_,fun p q s t hs ht b0 k hf g=>?_⟩
 ·obtain ⟨a,_,_,⟨_,rfl⟩ | ⟨_,h2⟩⟩:=hg q t ht
  ·exact hP
  exact h.all _ _ h2
 ·obtain ⟨a,_,_,⟨_,rfl⟩ | ⟨_,h2⟩⟩:=hg q t ht
  ·rcases c k hf with d | d
   ·exact h.lo i _ hi k d
   exact h.lo j _ v k d
  exact h.lo _ _ h2 k hf
 obtain ⟨r,e0,d0,c0⟩:=hg p s hs
 obtain ⟨a,a0,y,m⟩:=hg q t ht
 have n:r≠a:=fun e=>b0 (by rw [d0,y] at e; split at e <;> split at e <;> omega)
 rcases c0 with ⟨e1,rfl⟩ | ⟨e1,h1⟩
 ·rcases m with ⟨o,_⟩ | ⟨o,h2⟩
  ·exact n (e1.trans o.symm)
  rcases c k hf with d | d
  ·exact h.apart i a _ _ hi h2 (fun e=>o e.symm) k d g
  exact h.apart j a _ _ v h2 (fun e=>a0 e.symm) k d g
 rcases m with ⟨o,rfl⟩ | ⟨o,h2⟩
 ·rcases c k g with d | d
  ·exact h.apart i r _ _ hi h1 (fun e=>e1 e.symm) k d hf
  exact h.apart j r _ _ v h1 (fun e=>e0 e.symm) k d hf
 exact h.apart r a _ _ h1 h2 n k hf g
theorem Wk.take {β:Type} {w0 w:World} {M:List A7} {L T:List Th} (K:Wk w0 w M L T) (i j:Nat) (f:β→Th) (xs a:List β) (x:β) (hi:L[i]?=some (Th.all (xs.map f))) (d:L[j]?=some (f x)) (g:i≠j) (e:∀ z,z∈a↔z=x∨z∈xs):Wk w0 w M ((L.set i (Th.all (a.map f))).eraseIdx j) T:=by
 have b:j < L.length:=(List.getElem?_eq_some_iff.1 d).1
 have c:i < L.length:=(List.getElem?_eq_some_iff.1 hi).1
 refine ⟨K.B,?_⟩
 have h:=K.H.absorb (K.ix i) (K.ix j) f xs a x (K.at i hi) (K.at j d) (by unfold Wk.ix; omega) e
 unfold Wk.ix at h
 rw [List.set_append,if_neg (by simp),List.length_map,Nat.add_sub_cancel_left,List.set_append,if_pos c,List.eraseIdx_append_of_length_le (by simp),List.length_map,Nat.add_sub_cancel_left,List.eraseIdx_append_of_lt_length (by rw [List.length_set]; exact b)] at h
 exact h
theorem Be.agree {b:Nat} {ns:List Int} {w w':World} (h:Be b ns w) (a:∀ k,k≤b→w'.heap[k]?=w.heap[k]?):Be b ns w':=by
 obtain ⟨v,k,d,h2,c⟩:=h
 exact ⟨v,k,d,(a b (Nat.le_refl _)).trans h2,c.keep fun g hg=>a g (Nat.le_of_lt hg)⟩
theorem mj (w:World) (b:Nat) (hb:b < w.heap.size):∃ w0:World,w0.heap.size=b∧Below w0.heap.size w0 w:=by
 refine ⟨{ w with heap:=w.heap.extract 0 b },by simp; omega,rfl,rfl,rfl,by simp; omega,fun k a=>?_⟩
 simp at a
 simp [Array.getElem?_extract]
 omega
def BF (w0:World) (b:Nat) (ns:List Int):Th where
 F k:=k=b
 P w:=∃ u,Be b ns u∧(∀ k,k < b→u.heap[k]?=w0.heap[k]?)∧u.heap[b]?=w.heap[b]?
 fr w w' h _ hk:=by
  obtain ⟨u,h1,h2,h3⟩:=h
  have hlt:b < (ε w):=by
   obtain ⟨v,k,_,hc,_⟩:=h1
   exact L3 (h3.symm.trans hc)
  exact ⟨u,h1,h2,h3.trans (hk b rfl hlt).symm⟩
def Bh (b:Nat) (w:World):Th where
 F k:=b < k∧k < (ε w)
 P u:=(ε w)≤(ε u)∧∀ k,b < k→k < (ε w)→u.heap[k]?=w.heap[k]?
 fr u u' h hs hk:=⟨Nat.le_trans h.1 hs,fun k h1 h2=>(hk k ⟨h1,h2⟩ (Nat.lt_of_lt_of_le h2 h.1)).trans (h.2 k h1 h2)⟩
theorem pg {α:Type} {l:List α} {i:Nat} {x:α} (h:l[i]?=some x):l.set i x=l:=by
 refine List.ext_getElem? fun j=>?_
 rw [List.getElem?_set]
 split
 ·rename_i hij
  rw [← hij,h,if_pos (List.getElem?_eq_some_iff.1 h).1]
 rfl
section
variable {b:Nat} {ns:List Int} {w0 w w':World} {M:List A7} {L T X:List Th}
theorem Wk.tapeOk (K:Wk w0 w M L T) (e:w0.heap.size=b) (i:Nat) (hi:L[i]?=some (BF w0 b ns)):Be b ns w:=by
 obtain ⟨u,c,h2,a⟩:=K.H.all (K.ix i) _ (K.at i hi)
 refine c.agree fun k d=>?_
 rcases Nat.lt_or_ge k b with h | h
 ·exact (K.B.block k (by omega)).trans (h2 k h).symm
 obtain rfl:k=b:=by omega
 exact a.symm
theorem Wk.tick (K:Wk w0 w M L T) (f:w0.heap.size=b) (i:Nat) (hi:L[i]?=some (BF w0 b ns)) (d:Be b ns w') (hb:CG b w w'):Wk w0 w' M L T:=by
 have e:Below w0.heap.size w w':=hb.below (by omega) K.size
 refine ⟨K.B.trans e,?_⟩
 have c:=K.at i hi
 have:=K.H.set (K.ix i) c (t:=BF w0 b ns) hb.size ⟨w',d,fun k a=>(K.B.trans e).block k (by omega),rfl⟩ (fun k a=>⟨by rw [show k=b from a]; exact d.lt,.inl a⟩) (fun k a hf=>hb.block k a hf)
 rwa [pg c] at this
theorem Wk.tape (h:Be b ns w):∃ w0:World,w0.heap.size=b∧Wk w0 w [] [BF w0 b ns,Bh b w] []:=by
 obtain ⟨w0,g,e⟩:=mj w b h.lt
 refine ⟨w0,g,e,e.size,fun i t hi=>?_,fun i t hi k d=>?_,fun i j s t hi a c k hs ht=>?_⟩
 ·match i,hi with
  | 0,hi=>
   obtain rfl:=Option.some.inj hi
   exact ⟨w,h,fun k d=>e.block k (by omega),rfl⟩
  | 1,hi=>
   obtain rfl:=Option.some.inj hi
   exact ⟨Nat.le_refl _,fun _ _ _=>rfl⟩
 ·have f:=h.lt
  match i,hi with
  | 0,hi=>
   obtain rfl:=Option.some.inj hi
   obtain rfl:k=b:=d
   omega
  | 1,hi=>
   obtain rfl:=Option.some.inj hi
   obtain ⟨l,h2⟩:b < k∧k < w.heap.size:=d
   omega
 match i,j,hi,a with
 | 0,0,hi,a=>exact c rfl
 | 1,1,hi,a=>exact c rfl
 | 0,1,hi,a=>
  obtain rfl:=Option.some.inj hi
  obtain rfl:=Option.some.inj a
  obtain rfl:k=b:=hs
  exact absurd ht.1 (Nat.lt_irrefl _)
 | 1,0,hi,a=>
  obtain rfl:=Option.some.inj hi
  obtain rfl:=Option.some.inj a
  obtain rfl:k=b:=ht
  exact absurd hs.1 (Nat.lt_irrefl _)
theorem Wk.out (K:Wk w0 w' M (BF w0 b ns :: Bh b w :: X) T) (f:w0.heap.size=b) (a:Below w0.heap.size w0 w):Be b ns w'∧CG b w w':=by
 obtain ⟨e,h2⟩:=K.H.all (K.ix 1) _ (K.at 1 rfl)
 refine ⟨K.tapeOk f 0 rfl,K.B.os.trans a.os.symm,K.B.tape.trans a.tape.symm,K.B.output.trans a.output.symm,e,fun k d c=>?_⟩
 rcases Nat.lt_or_ge k b with h | h
 ·exact (K.B.block k (by omega)).trans (a.block k (by omega)).symm
 exact h2 k (by omega) d
theorem Aj.up {t:Th} (h:Aj b w (t :: X)) (ht:t.F b):Aj (b + 1) w X:=by
 refine ⟨(h.lo 0 t rfl b ht).2,fun i s hs=>h.all (i + 1) s hs,fun i s hs k a=>?_,fun i j s u hs hu c=>h.apart (i + 1) (j + 1) s u hs hu (by omega)⟩
 have d:=h.lo (i + 1) s hs k a
 have h2:k≠b:=fun he=>h.apart 0 (i + 1) t s rfl hs (by omega) b ht (he ▸ a)
 omega
theorem Wk.fin (K:Wk w0 w' [] (BF w0 b ns :: Bh b w :: X) []) (a:(ε w0)=b):Aj (b + 1) w' X:=by
 subst a
 have h:=K.H
 simp only [List.map_nil,List.nil_append,List.append_nil] at h
 exact Aj.up (h.erase 1) rfl
theorem Aj.but {c:Nat} (h:Aj c w L) (hc:b < c) (hb:CG b w w'):Aj c w' L:=h.fr hb.size fun k a h2=>hb.block k h2 (by omega)
theorem BK {P:Program} {f:FuncId} {R:Ending→World→Prop} {n:Nat} {todo:List Item} {E:Nat→Value} {g:FuncId} {args:List Value} {Q:Ending→World→Prop} (K:Wk w0 w M L T) (k:(ε w0)=b) (i:Nat) (hi:L[i]?=some (BF w0 b ns)) (h:Calls P g args.toArray w Q) (d:∀ e w',Q e w'→Be b ns w'∧CG b w w')
  (j:∀ e w',Q e w'→Wk w0 w' M L T→∃ v,e=.returned v∧At P f R (AC todo) (Fr n (Aw E (BO n E todo) v)) w') (hc:(JD n E todo).map (fun c=>(c.1,c.2.1.map (A8 n E)))=some (g,args):=by kernel_rfl) (hg:DX P g=true:=by kernel_rfl):At P f R todo (Fr n E) w:=
 BA h (fun e w' a=>j e w' a (K.tick k i hi (d e w' a).1 (d e w' a).2)) hc hg
end
theorem BX.ok {b:Nat} {ns:List Int} {n:Int} {w:World}:∀ e w',BX b ns n w e w'→Be b ns w'∧CG b w w':=fun _ _ ⟨_,_,_,a,h2⟩=>⟨a,h2⟩
end Go.Proofs.YtkjbdagicjbjjaaGreat

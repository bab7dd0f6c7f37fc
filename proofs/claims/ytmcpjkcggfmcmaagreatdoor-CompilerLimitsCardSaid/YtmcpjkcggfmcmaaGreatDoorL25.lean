/-
  Part 25 of a proof: contracts of functions.
-/
import Derived.Test.YtmcpjkcggfmcmaaGreatDoorL24
import Derived.StringKeys
set_option linter.all false
namespace Go.Proofs.YtmcpjkcggfmcmaaGreatDoor
open Go.RowKit
set_option maxRecDepth 100000
set_option maxHeartbeats 600000
set_option linter.unusedSectionVars false
structure AZ (α β:Type) where
 k:TypeId
 e:TypeId
 t:TypeId
 kv:α→Value
 kl:α→Lit
 ka:α→Prop
 ev:β→Value
 ea:β→Prop
 z:β
 R:Value→Option (DataW Unit×List MemPlace)
 code:β→DataW Unit
 K:Maps.Keyed Tryz.prog k
 ht:Tryz.prog.underlying t=some (.map k e)
 key:∀ a,ka a→keyOf Tryz.prog k (kv a)=some (kl a)
 isKey:∀ a,WideAt.IsKeyLit (kl a)
 inj:∀ a b,kl a=kl b→a=b
 hz:∀ w,(zeroValue e).run Tryz.prog w=.ok (ev z) w
 za:ea z
 hR:∀ v,ea v→R (ev v)=some (code v,[])
 hinv:∀ x v ps,R x=some (code v,ps)→x=ev v
section
variable {α β:Type} [DecidableEq α] (S:AZ α β)
def BV:List (α×β)→α→Option β
 | [],_=>none
 | p :: m,a=>if p.1=a then some p.2 else BV m a
def AZ.dat:List (α×β)→DataW Unit
 | []=>.map []
 | p :: m=>(AZ.dat m).put (S.kl p.1) (S.code p.2)
theorem AZ.dat_map:∀ m:List (α×β),Maps.IsMap (S.dat m)
 | []=>⟨[],rfl⟩
 | p :: m=>by
  obtain ⟨es,h⟩:=AZ.dat_map m
  unfold AZ.dat
  rw [h]
  exact ⟨_,rfl⟩
theorem AZ.dat_has:∀ (m:List (α×β)) (a:α),Maps.has (S.dat m) (S.kl a)=(BV m a).isSome
 | [],a=>rfl
 | p :: m,a=>by
  unfold AZ.dat BV
  by_cases h:p.1=a
  ·subst h
   rw [if_pos rfl,Maps.has_put_same (S.dat_map m) (S.isKey _)]
   rfl
  ·rw [if_neg h,Maps.has_put_other (fun e=>h (S.inj _ _ e).symm),AZ.dat_has m a]
theorem AZ.dat_at:∀ (m:List (α×β)) (a:α),(S.dat m).atKey (S.kl a) (S.code S.z)=S.code ((BV m a).getD S.z)
 | [],a=>rfl
 | p :: m,a=>by
  unfold AZ.dat BV
  by_cases h:p.1=a
  ·subst h
   rw [if_pos rfl,Maps.atKey_put_same (S.dat_map m) (S.isKey _)]
   rfl
  ·rw [if_neg h,Maps.atKey_put_other (fun e=>h (S.inj _ _ e).symm),AZ.dat_at m a]
def AZ.at (b:Nat) (m:List (α×β)) (w:World):Prop:=w.ownsMap Tryz.prog S.k S.R b m.length (S.dat m)
theorem AZ.at_fr {b:Nat} {m:List (α×β)} {w w':World} (h:S.at b m w) (hb:b < w.heap.size→w'.heap[b]?=w.heap[b]?):S.at b m w':=by
 have hl:=World.ownsMap.lt h
 obtain ⟨es,clock,h1,h2⟩:=h
 exact ⟨es,clock,(hb hl).trans h1,h2⟩
def AZ.th (b:Nat) (m:List (α×β)):Th:=⟨(·=b),S.at b m,fun _ _ h _ hk=>S.at_fr h (hk b rfl)⟩
theorem AZ.look {b:Nat} {m:List (α×β)} {w:World} (h:S.at b m w) (a:α) (ha:S.ka a):(Instr.lookup S.t (.map (some b)) (S.kv a) false).run Tryz.prog w=.ok (S.ev ((BV m a).getD S.z)) w:=by
 obtain ⟨v,ps,h1,h2⟩:=World.ownsMap.lookup h S.K S.ht (S.hz w) (S.hR _ S.za) (S.key a ha)
 rw [S.dat_at] at h2
 rw [h1,S.hinv _ _ _ h2]
theorem AZ.look2 {b:Nat} {m:List (α×β)} {w:World} (h:S.at b m w) (a:α) (ha:S.ka a):(Instr.lookup S.t (.map (some b)) (S.kv a) true).run Tryz.prog w=.ok (.tuple #[S.ev ((BV m a).getD S.z),.bool (BV m a).isSome]) w:=by
 obtain ⟨v,ps,h1,h2⟩:=World.ownsMap.look_ok h S.K S.ht (S.hz w) (S.hR _ S.za) (S.key a ha)
 rw [S.dat_at] at h2
 rw [h1,S.hinv _ _ _ h2,S.dat_has]
theorem AZ.store {b:Nat} {m:List (α×β)} {w:World} (h:S.at b m w) (a:α) (v:β) (ha:S.ka a) (hv:S.ea v) (hm:m.length < maxLen):∃ w',(Instr.mapUpdate S.t (.map (some b)) (S.kv a) (S.ev v)).run Tryz.prog w=.ok () w'∧S.at b ((a,v) :: m) w'∧w.grownBy w' (some b):=by
 obtain ⟨w',h1,h2,h3⟩:=World.ownsMap.update h S.K S.ht hm (S.key a ha) (S.hR v hv)
 exact ⟨w',h1,h2,h3⟩
end
section
variable {α β:Type} [DecidableEq α] (S:AZ α β) {o:Oper} {ρ:Operand→Value} {w:World}
theorem Fb {t:TypeId} {x y:Operand} (hop:o.op=.lookup t x y false) (ht:t=S.t) {b:Nat} {m:List (α×β)} (hx:ρ x=.map (some b)) (a:α) (hy:ρ y=S.kv a) (ha:S.ka a) (h:S.at b m w):(execOp ρ o).run Tryz.prog w=.ok (.value (S.ev ((BV m a).getD S.z))) w:=by
 subst ht
 have:=S.look h a ha
 unfold execOp
 simp only [hop,hx,hy]
 rw [Sem.run_bind,this]
 rfl
theorem Mt {t:TypeId} {x y:Operand} (hop:o.op=.lookup t x y true) (ht:t=S.t) {b:Nat} {m:List (α×β)} (hx:ρ x=.map (some b)) (a:α) (hy:ρ y=S.kv a) (ha:S.ka a) (h:S.at b m w):(execOp ρ o).run Tryz.prog w=.ok (.value (.tuple #[S.ev ((BV m a).getD S.z),.bool (BV m a).isSome])) w:=by
 subst ht
 have:=S.look2 h a ha
 unfold execOp
 simp only [hop,hx,hy]
 rw [Sem.run_bind,this]
 rfl
end
section
variable {α β:Type} [DecidableEq α] (S:AZ α β) {fi:FuncId} {R:Ending→World→Prop} {k:Nat} {td:List Item} {E:Nat→Value} {b:Nat} {L:List Th} {w:World}
theorem OB {P:Program} {f:FuncId} {R:Ending→World→Prop} {n:Nat} {todo:List Item} {E:Nat→Value} {w w':World} (o:Oper) (hc:EJ n E todo=some o) (hx:(execOp (BJ n E) o).run P w=.ok .skip w') (h:At P f R (AF todo) (Fr n (BO E o.dst undef)) w'):At P f R todo (Fr n E) w:=by
 unfold EJ at hc
 split at hc
 ·rename_i ops i r k
  split at hc
  ·rename_i o' ho
   split at hc
   ·rename_i hw
    obtain rfl:=Option.some.inj hc
    refine EE ho (by rw [Dv]; exact hw) ?_
    unfold Oper.wp
    rw [DU,hx]
    show wpOps P ops _ r ((Fr n E).put o'.dst undef) w'
    rw [Dp]
    exact h
   ·cases hc
  ·cases hc
 ·cases hc
theorem Gt (H:AY b w L) (o:Oper) (hc:EJ k E td=some o) {t:TypeId} (ho:o.op=.makeMap t none)
  (hk:∀ w',w'.heap.size=w.heap.size + 1→AY b w' (L++[S.th w.heap.size []])→Below b w w'→At Tryz.prog fi R (AF td) (Fr k (BO E o.dst (.map (some w.heap.size)))) w'):At Tryz.prog fi R td (Fr k E) w:=by
 have hx:(execOp (BJ k E) o).run Tryz.prog w=.ok (.value (.map (some w.heap.size))) (w.alloc (.map #[] 0)):=by
  unfold execOp
  simp only [ho]
  rfl
 have hB:Below w.heap.size w (w.alloc (.map #[] 0)):=⟨rfl,rfl,rfl,by simp,fun q hq=>Fp w _ q hq⟩
 refine Ki o hc hx (hk _ (by simp) (H.join hB ⟨by simp,fun i t hi=>?_,fun i t hi q hq=>?_,fun i j s t hi hj hij=>?_⟩) (hB.mono H.base))
 ·cases i with
  | zero=>obtain rfl:=Option.some.inj hi; exact World.ownsMap_made w Tryz.prog S.k S.R
  | succ i=>simp at hi
 ·cases i with
  | zero=>
   obtain rfl:=Option.some.inj hi
   obtain rfl:q=w.heap.size:=hq
   simp
  | succ i=>simp at hi
 ·cases i with
  | zero=>cases j with
   | zero=>exact absurd rfl hij
   | succ j=>simp at hj
  | succ i=>simp at hi
theorem OC (H:AY b w L) (i:Nat) {g:Nat} {m:List (α×β)} (hi:L[i]?=some (S.th g m)) (a:α) (v:β) (ha:S.ka a) (hv:S.ea v) (o:Oper) (hc:EJ k E td=some o) {t:TypeId} {x y z:Operand} (ho:o.op=.mapUpdate t x y z) (ht:t=S.t)
  (hx:BJ k E x=.map (some g)) (hy:BJ k E y=S.kv a) (hz:BJ k E z=S.ev v) (hm:m.length < 100000000000)
  (hk:∀ w',AY b w' (L.set i (S.th g ((a,v) :: m)))→Below b w w'→At Tryz.prog fi R (AF td) (Fr k (BO E o.dst undef)) w'):At Tryz.prog fi R td (Fr k E) w:=by
 subst ht
 obtain ⟨w',h1,h2,h3⟩:=S.store (H.all i _ hi) a v ha hv (by unfold maxLen; omega)
 have hl:=(H.lo i _ hi g rfl)
 have hxx:(execOp (BJ k E) o).run Tryz.prog w=.ok .skip w':=by
  unfold execOp
  simp only [ho,hx,hy,hz]
  rw [Sem.run_bind,h1]
  rfl
 refine OB o hc hxx (hk w' (H.set i hi h3.size h2 (fun q hq=>?_) (fun q hq hf=>h3.block q hq fun he=>hf (Option.some.inj he))) ⟨h3.os,h3.tape,h3.output,h3.size,fun q hq=>h3.block q (Nat.lt_of_lt_of_le hq H.base) fun he=>?_⟩)
 ·obtain rfl:q=g:=hq
  exact ⟨World.ownsMap.lt h2,.inl rfl⟩
 ·have:=Option.some.inj he
  omega
end
theorem O8 {a:Int} (h1:-9223372036854775808≤a) (h2:a≤9223372036854775807):(Lit.int .i64 a).wf=true:=by
 have e1:IntKind.i64.min=-9223372036854775808:=by decide
 have e2:IntKind.i64.max=9223372036854775807:=by decide
 show (decide (IntKind.i64.min≤a) && decide (a≤IntKind.i64.max))=true
 rw [e1,e2,decide_eq_true h1,decide_eq_true h2]
 rfl
noncomputable def BC:AZ (List UInt8) Int where
 k:=9
 e:=3
 t:=73
 kv s:=.string ⟨⟨s⟩⟩
 kl s:=.string s
 ka s:=s.length≤4294967296
 ev n:=.int .i64 n
 ea n:=-9223372036854775808≤n∧n≤9223372036854775807
 z:=0
 R:=plainElem Tryz.prog 3
 code n:=.lit (.int .i64 n)
 K:=Maps.string_keyed Tryz.underlying9
 ht:=Tryz.underlying73
 key a ha:=WideMaps.keyOf_string_mk Tryz.underlying9 (by show a.length≤maxLen; unfold maxLen; omega)
 isKey _:=trivial
 inj a b h:=by injection h
 hz w:=Tryz.zeroValue3 w
 za:=by decide
 hR v hv:=plainElem_int Tryz.underlying3 (O8 hv.1 hv.2)
 hinv x v ps h:=by
  obtain ⟨a,rfl,h2,_⟩:=plainElem_int_inv Tryz.underlying3 h
  simp only [Prod.mk.injEq,DataW.lit.injEq,Lit.int.injEq,true_and] at h2
  rw [h2.1]
noncomputable def Fs:AZ Nat Bool where
 k:=3
 e:=4
 t:=149
 kv n:=.int .i64 (n:Int)
 kl n:=.int .i64 n
 ka n:=n≤4294967296
 ev b:=.bool b
 ea _:=True
 z:=false
 R v:=match v with | .bool x=>some (.lit (.bool x),[]) | _=>none
 code b:=.lit (.bool b)
 K:=Maps.int_keyed Tryz.underlying3
 ht:=Tryz.underlying149
 key a ha:=Maps.keyOf_int_mk Tryz.underlying3 (O8 (by omega) (by omega))
 isKey _:=trivial
 inj a b h:=by injection h with h1 h2; exact Int.ofNat.inj h2
 hz w:=Tryz.zeroValue4 w
 za:=trivial
 hR _ _:=rfl
 hinv x v ps h:=by
  split at h
  ·simp only [Option.some.injEq,Prod.mk.injEq,DataW.lit.injEq,Lit.bool.injEq] at h
   rw [h.1]
  ·cases h
abbrev m2:=Option Addr×Nat×Nat
def m0:Value→Option (DataW Unit×List MemPlace)
 | .slice none n c=>some (.agg [.nil,.lit (.int .i64 n),.lit (.int .i64 c)],[])
 | .slice (some ⟨g,o,none⟩) n c=>some (.agg [.lit (.int .i64 g),.lit (.int .i64 n),.lit (.int .i64 c),.lit (.int .i64 o)],[])
 | _=>none
noncomputable def H3:AZ Nat m2 where
 k:=3
 e:=56
 t:=106
 kv n:=.int .i64 (n:Int)
 kl n:=.int .i64 n
 ka n:=n≤4294967296
 ev v:=.slice v.1 v.2.1 v.2.2
 ea v:=∀ a,v.1=some a→a.spot=none
 z:=(none,0,0)
 R:=m0
 code v:=match v.1 with
  | none=>.agg [.nil,.lit (.int .i64 v.2.1),.lit (.int .i64 v.2.2)]
  | some ⟨g,o,none⟩=>.agg [.lit (.int .i64 g),.lit (.int .i64 v.2.1),.lit (.int .i64 v.2.2),.lit (.int .i64 o)]
  | some ⟨_,_,some _⟩=>.agg []
 K:=Maps.int_keyed Tryz.underlying3
 ht:=Tryz.underlying106
 key a ha:=Maps.keyOf_int_mk Tryz.underlying3 (O8 (by omega) (by omega))
 isKey _:=trivial
 inj a b h:=by injection h with h1 h2; exact Int.ofNat.inj h2
 hz w:=Tryz.zeroValue56 w
 za a h:=by cases h
 hR v hv:=by
  obtain ⟨A,n,c⟩:=v
  cases A with
  | none=>rfl
  | some a=>
   obtain ⟨g,o,s⟩:=a
   obtain rfl:s=none:=hv _ rfl
   rfl
 hinv x v ps h:=by
  obtain ⟨A,n,c⟩:=v
  unfold m0 at h
  split at h
  ·cases A with
   | none=>simp at h; simp; omega
   | some a=>
    obtain ⟨g,o,s⟩:=a
    cases s <;> simp at h
  ·cases A with
   | none=>simp at h
   | some a=>
    obtain ⟨g,o,s⟩:=a
    cases s with
    | none=>simp at h; simp; omega
    | some s=>simp at h
  ·cases h
def GA:Op→Bool
 | .makeMap _ _=>true
 | _=>false
def D5:Op→Bool
 | .lookup _ _ _ _=>true
 | _=>false
def Mg:Op→Bool
 | .mapUpdate _ _ _ _=>true
 | _=>false
def Th.all (us:List Th):Th:=⟨fun k=>∃ u∈us,u.F k,fun w=>∀ u∈us,u.P w,fun w w' h hs hk u hu=>u.fr w w' (h u hu) hs fun k hf hl=>hk k ⟨u,hu,hf⟩ hl⟩
theorem AY.absorb {β:Type} {b:Nat} {w:World} {L:List Th} (h:AY b w L) (i j:Nat) (f:β→Th) (xs ys:List β) (x:β) (hi:L[i]?=some (Th.all (xs.map f))) (hj:L[j]?=some (f x)) (hij:i≠j) (hy:∀ z,z∈ys↔z=x∨z∈xs):AY b w ((L.set i (Th.all (ys.map f))).eraseIdx j):=by
 have hl:i < L.length:=(List.getElem?_eq_some_iff.1 hi).1
 have hfam:∀ k,(Th.all (ys.map f)).F k→(Th.all (xs.map f)).F k∨(f x).F k:=fun k ⟨u,hu,hf⟩=>by
  obtain ⟨z,hz,rfl⟩:=List.mem_map.1 hu
  rcases (hy z).1 hz with rfl | hz
  ·exact .inr hf
  ·exact .inl ⟨_,List.mem_map.2 ⟨z,hz,rfl⟩,hf⟩
 have hP:(Th.all (ys.map f)).P w:=fun u hu=>by
  obtain ⟨z,hz,rfl⟩:=List.mem_map.1 hu
  rcases (hy z).1 hz with rfl | hz
  ·exact h.all j _ hj
  ·exact h.all i _ hi _ (List.mem_map.2 ⟨z,hz,rfl⟩)
 have hg:∀ (q:Nat) (t:Th),((L.set i (Th.all (ys.map f))).eraseIdx j)[q]?=some t→∃ q',q'≠j∧q'=(if q < j then q else q + 1)∧((q'=i∧t=Th.all (ys.map f))∨(q'≠i∧L[q']?=some t)):=fun q t ht=>by
  rw [List.getElem?_eraseIdx] at ht
  refine ⟨_,?_,rfl,?_⟩
  ·split <;> omega
  ·split at ht <;> rename_i hq <;> simp only [hq,if_true,if_false] <;> rw [List.getElem?_set] at ht <;> split at ht
   ·rename_i he; exact .inl ⟨he.symm,(Option.some.inj ht).symm⟩
   ·rename_i he; exact .inr ⟨fun e=>he e.symm,ht⟩
   ·rename_i he; exact .inl ⟨he.symm,(Option.some.inj ht).symm⟩
   ·rename_i he; exact .inr ⟨fun e=>he e.symm,ht⟩
 refine ⟨h.base,fun q t ht=>?_,fun q t ht k hf=>?_,fun p q s t hs ht hpq k hf hf2=>?_⟩
 ·obtain ⟨q',_,_,⟨_,rfl⟩ | ⟨_,h2⟩⟩:=hg q t ht
  ·exact hP
  ·exact h.all _ _ h2
 ·obtain ⟨q',_,_,⟨_,rfl⟩ | ⟨_,h2⟩⟩:=hg q t ht
  ·rcases hfam k hf with h3 | h3
   ·exact h.lo i _ hi k h3
   ·exact h.lo j _ hj k h3
  ·exact h.lo _ _ h2 k hf
 ·obtain ⟨p',hp1,hp2,hp3⟩:=hg p s hs
  obtain ⟨q',hq1,hq2,hq3⟩:=hg q t ht
  have hne:p'≠q':=fun e=>hpq (by rw [hp2,hq2] at e; split at e <;> split at e <;> omega)
  rcases hp3 with ⟨e1,rfl⟩ | ⟨e1,h1⟩
  ·rcases hq3 with ⟨e2,_⟩ | ⟨e2,h2⟩
   ·exact hne (e1.trans e2.symm)
   ·rcases hfam k hf with h3 | h3
    ·exact h.apart i q' _ _ hi h2 (fun e=>e2 e.symm) k h3 hf2
    ·exact h.apart j q' _ _ hj h2 (fun e=>hq1 e.symm) k h3 hf2
  ·rcases hq3 with ⟨e2,rfl⟩ | ⟨e2,h2⟩
   ·rcases hfam k hf2 with h3 | h3
    ·exact h.apart i p' _ _ hi h1 (fun e=>e1 e.symm) k h3 hf
    ·exact h.apart j p' _ _ hj h1 (fun e=>hp1 e.symm) k h3 hf
   ·exact h.apart p' q' _ _ h1 h2 hne k hf hf2
theorem Wk.take {β:Type} {w0 w:World} {M:List BM} {L T:List Th} (K:Wk w0 w M L T) (i j:Nat) (f:β→Th) (xs ys:List β) (x:β) (hi:L[i]?=some (Th.all (xs.map f))) (hj:L[j]?=some (f x)) (hij:i≠j) (hy:∀ z,z∈ys↔z=x∨z∈xs):Wk w0 w M ((L.set i (Th.all (ys.map f))).eraseIdx j) T:=by
 have hjl:j < L.length:=(List.getElem?_eq_some_iff.1 hj).1
 have hil:i < L.length:=(List.getElem?_eq_some_iff.1 hi).1
 refine ⟨K.B,?_⟩
 have h:=K.H.absorb (K.ix i) (K.ix j) f xs ys x (K.at i hi) (K.at j hj) (by unfold Wk.ix; omega) hy
 unfold Wk.ix at h
 rw [List.set_append,if_neg (by simp),List.length_map,Nat.add_sub_cancel_left,List.set_append,if_pos hil,List.eraseIdx_append_of_length_le (by simp),List.length_map,Nat.add_sub_cancel_left,List.eraseIdx_append_of_lt_length (by rw [List.length_set]; exact hjl)] at h
 exact h
end Go.Proofs.YtmcpjkcggfmcmaaGreatDoor
namespace Go.Proofs.YtmcpjkcggfmcmaaGreatDoor
noncomputable section
open Go.RowKit
set_option maxRecDepth 100000
set_option maxHeartbeats 1000000
attribute [local irreducible] BD Bb AF AG AL A4 Ai AO BO CV Di CC Bp At Fr
def CN (m:List (List UInt8×Int)) (p1:List UInt8) (p2:Int):List (List UInt8×Int):=cond (!((BV m p1).isSome)) ((p1,p2) :: m) (m)
noncomputable def Q5:Code:=Tryz.f21.body.getD .skip
def hJ:List Item:=AB (As D5 90 ([.code Q5])) ([.code Q5])
def TQ:List Item:=AB 60 (AF hJ)
def ZR:List Item:=AB (As Mg 90 (AG TQ)) (AG TQ)
def n3:List Item:=AB 60 (AF ZR)
def n2:List Item:=AB 60 (AL TQ)
theorem GR (L:List Th) (p0b:Nat) (m:List (List UInt8×Int)) (p1:List UInt8) (p2:Int) (w we:World) (hka:p1.length≤4294967296) (hva:-9223372036854775808≤p2∧p2≤9223372036854775807) (hml:m.length≤4294967296) (B:Below w.heap.size w we) (H:AY w.heap.size we ([(AZ.th BC p0b m)]++L)):Calls Tryz.prog 21 ([.map (some p0b),.string ⟨⟨p1⟩⟩,.int .i64 p2]:List Value).toArray we fun e w'=>e=.returned (.tuple #[])∧Below w.heap.size w w'∧AY w.heap.size w' ([(AZ.th BC p0b (CN m p1 p2))]++L):=by
 refine Ab (fn:=Tryz.f21) (c:=Q5) (n:=19) ?_
 have K1:Wk w we [] [(AZ.th BC p0b m)] L:=⟨B,H⟩
 clear B H
 refine BA D5 hJ K1 [] fun w1 K2=>?_
 refine F5 (Mt BC (t:=73) (x:=.tmp 9) (y:=.tmp 10) (by kernel_rfl) rfl (b:=p0b) (m:=m) (by kernel_rfl) p1 (by kernel_rfl) hka (K2.H.all (K2.ix 0) _ (K2.at 0 rfl))) ?_
 refine AC TQ K2 [] fun w2 K3=>?_
 refine AK (!((BV m p1).isSome)) (fun c3=>?_) (fun c3=>?_)
 ·refine BA Mg ZR K3 [] fun w4 K4=>?_
  refine OC BC K4.H (K4.ix 0) (K4.at 0 rfl) p1 p2 hka hva (Ck ZR) (by kernel_rfl) (t:=73) (x:=.tmp 16) (y:=.tmp 17) (z:=.tmp 18) (by kernel_rfl) rfl (by kernel_rfl) (by kernel_rfl) (by kernel_rfl) (by ((try simp only [maxLen,List.length_append,List.length_cons,List.length_nil,List.length_singleton]) <;> omega)) fun w5 Hn b5=>?_
  have K5:=K4.put 0 (by simp) b5 Hn
  refine AC n3 K5 [] fun w6 K6=>?_
  have hS:(CN m p1 p2)=(p1,p2) :: m:=by unfold CN; rw [c3] <;> rfl
  exact Aa K6 (0,0) (.tuple #[]) ⟨rfl,K6.B,by rw [hS]; exact K6.own [0] rfl (by decide)⟩
 ·refine AC n2 K3 [] fun w7 K7=>?_
  have hS:(CN m p1 p2)=m:=by unfold CN; rw [c3] <;> rfl
  exact Aa K7 (0,0) (.tuple #[]) ⟨rfl,K7.B,by rw [hS]; exact K7.own [0] rfl (by decide)⟩
theorem QL (m:List (List UInt8×Int)) (s:List UInt8) (n:Int):(CN m s n).length≤m.length + 1:=by
 unfold CN
 cases !(BV m s).isSome <;> simp
end
end Go.Proofs.YtmcpjkcggfmcmaaGreatDoor
namespace Go.Proofs.YtmcpjkcggfmcmaaGreatDoor
open Go.RowKit
set_option maxRecDepth 100000
set_option maxHeartbeats 600000
theorem QR {α:Type} {rel:α→List Value→Prop}:∀ {l l':List α} {rs rs':List (List Value)},DG rel l rs→DG rel l' rs'→DG rel (l++l') (rs++rs')
 | [],_,[],_,_,h=>h
 | [],_,_ :: _,_,h,_=>h.elim
 | _ :: _,_,[],_,h,_=>h.elim
 | _ :: _,_,_ :: _,_,k,h=>⟨k.1,QR k.2 h⟩
theorem LA {α:Type} {f:α→List Value}:∀ (l:List α),DG (fun e r=>r=f e) l (l.map f)
 | []=>trivial
 | _ :: l=>⟨rfl,LA l⟩
abbrev IJ (A:Option Addr) (c:Nat) (l:List (Int×Int×Int)):Th:=Th.row 97 3 (fun e r=>r=Qx e) A c l
theorem AY.entRow {α:Type} {b:Nat} {w:World} {L:List Th} (h:AY b w L) (i:Nat) {g:Nat} {T:TypeId} {n:Nat} (rel:α→List Value→Prop) (hi:L[i]?=some (Th.ent ⟨g,0,[],T,true⟩)):AY b w (L.set i (Th.row T n rel (some ⟨g,0,none⟩) 0 [])):=by
 have hg:BM.good w ⟨g,0,[],T,true⟩:=h.all i _ hi
 refine h.set i hi (Nat.le_refl _) ⟨[],trivial,by simp,.inr ⟨g,0,#[],rfl,Nat.zero_le _,?_,Nat.le_refl _,Nat.zero_le _,by simp,by simp⟩⟩ (fun k hk=>?_) (fun _ _ _=>rfl)
 ·have:=hg.2
  rw [if_pos rfl] at this
  exact this.1
 ·obtain rfl:g=k:=by have:=Option.some.inj hk; injection this
  exact ⟨hg.1,.inl rfl⟩
section
variable {P:Program} {fi:FuncId} {R:Ending→World→Prop}
theorem fG {α:Type} {T:TypeId} {n:Nat} {rel:α→List Value→Prop} {b:Nat} {A:Option Addr} {c:Nat} {l:List α} {L:List Th} {w:World} {k:Nat} {td:List Item} {E:Nat→Value} (H:AY b w L) (i:Nat) (hi:L[i]?=some (Th.row T n rel A c l)) (es:List α) (rows:List (List Value)) (hrel:DG rel es rows) (ad:Addr) (cx:Nat)
  (hnews:∀ j u,rows.flatten[j]?=some u→w.cell? (ad.add j)=some u) (o:Oper) (hc:EJ k E td=some o) (s x:Operand) (t:TypeId) (ho:o.op=.call { callee:=.builtin .append,args:=#[s,x],argTypes:=#[t,t] })
  (ht:P.underlying t=some (.slice T)) (hinfo:(P.info? T).map (fun i=>(i.zero.map (·.cells.size),i.size,Nat.ble i.bytes 1024))=some (some n,n,true)) (hsz:0 < n)
  (hs:BJ k E s=.slice A l.length c) (hx:BJ k E x=.slice (some ad) es.length cx) (hn:∀ r∈rows,r.length=n) (h1:∀ r∈rows,r.all (·.oneCell')=true) (hlen:l.length + es.length≤100000000000)
  (hk:∀ A' c' w',AY b w' (L.set i (Th.row T n rel A' c' (l++es)))→Below b w w'→At P fi R (AF td) (Fr k (BO E o.dst (.slice A' (l++es).length c'))) w'):At P fi R td (Fr k E) w:=by
 obtain ⟨rs,hrs,hP⟩:(Th.row T n rel A c l).P w:=H.all i _ hi
 obtain ⟨inf,hin,z,hz,hzs,hsize,hby⟩:∃ inf,P.info? T=some inf∧∃ z,inf.zero=some z∧z.cells.size=n∧inf.size=n∧inf.bytes≤1024:=by
  cases hi:P.info? T with
  | none=>rw [hi] at hinfo; cases hinfo
  | some inf=>
   rw [hi] at hinfo
   simp only [Option.map_some,Option.some.injEq,Prod.mk.injEq,Option.map_eq_some_iff] at hinfo
   obtain ⟨⟨z,h1,h2⟩,h3,h4⟩:=hinfo
   exact ⟨inf,rfl,z,h1,h2,h3,Nat.le_of_ble_eq_true h4⟩
 have h63:l.length + es.length≤maxLen:=by unfold maxLen; omega
 have hbytes:(l.length + es.length) * inf.bytes≤140737488355328:=Nat.le_trans (Nat.mul_le_mul hlen hby) (by decide)
 have hfl:∀ q:List (List Value),(∀ r∈q,r.length=n)→q.flatten.length=q.length * n:=fun q=>by
  induction q with
  | nil=>intro _; simp
  | cons r q ih=>intro h; rw [List.flatten_cons,List.length_append,ih (fun r hr=>h r (by simp [hr])),h r (by simp),List.length_cons,Nat.succ_mul]; omega
 obtain ⟨v',w',hr,h2,h3,_,h5⟩:=run_append_own_at (P:=P) (w:=w) 0 t o.type T inf z n inf.bytes ht hin hz hsize rfl hzs hsz _ _ _ hP ad es.length cx rows.flatten (by rw [hfl rows hn,Gk hrel]) hnews (fun u hu=>by obtain ⟨r,hr,hu⟩:=List.mem_flatten.1 hu; exact List.all_eq_true.1 (h1 r hr) u hu) h63 hbytes (Nat.zero_le _)
 have hv:∃ A' c',v'=.slice A' (l.length + es.length) c':=by
  rcases h2.2 with ⟨h3,h0⟩ | ⟨g',cap,cur,rfl,_⟩
  ·exact ⟨none,0,by rw [h3,h0]⟩
  ·exact ⟨_,cap,rfl⟩
 obtain ⟨A',c',rfl⟩:=hv
 have hrow:(Th.row T n rel A' c' (l++es)).P w':=⟨rs++rows,QR hrs hrel,by
  rw [List.length_append,List.flatten_append]
  exact h2⟩
 have hF:∀ q,(Th.row T n rel A' c' (l++es)).F q→q < w'.heap.size∧((Th.row T n rel A c l).F q∨w.heap.size≤q):=fun q hq=>by
  have hob:(Value.slice A' (l.length + es.length) c').ownBlock=some q:=by rw [show A'=some ⟨q,0,none⟩ from hq]; rfl
  refine ⟨(Hc h2 hob).2,?_⟩
  rcases h5 with h5 | h5
  ·exact .inl (Cj hP (h5.symm.trans hob)).1
  ·right
   have:q=w.heap.size:=Option.some.inj (hob.symm.trans h5)
   omega
 have hkeep:∀ q,q < w.heap.size→¬ (Th.row T n rel A c l).F q→w'.heap[q]?=w.heap[q]?:=fun q hq hnf=>h3.block q hq fun he=>hnf (Cj hP he.symm).1
 have H':AY b w' (L.set i (Th.row T n rel A' c' (l++es))):=H.set i hi h3.size hrow hF hkeep
 have hB:Below b w w':=⟨h3.os,h3.tape,h3.output,h3.size,fun q hq=>h3.block q (Nat.lt_of_lt_of_le hq H.base) fun he=>by
  have:=(H.lo i _ hi q (Cj hP he.symm).1).1
  omega⟩
 unfold EJ at hc
 split at hc
 ·rename_i ops i' r k'
  split at hc
  ·rename_i o' ho'
   split at hc
   ·rename_i hw
    obtain rfl:=Option.some.inj hc
    refine EE ho' (by rw [Dv]; exact hw) ?_
    unfold Oper.wp execOp
    rw [DU]
    simp only [ho,resolve,invoke,builtin,Sem.run_bind,Sem.run_pure,Result.andThen_ok,List.map_toArray,List.map_cons,List.map_nil,hs,hx,hr]
    show wpOps P ops _ r ((Fr k E).put o'.dst (.slice A' (l.length + es.length) c')) w'
    rw [Dp]
    have:=hk _ _ w' H' hB
    rw [List.length_append] at this
    exact this
   ·cases hc
  ·cases hc
 ·cases hc
end
theorem XC {n:Nat} {w:World} {g off:Nat} {rs:List (List Value)} (hn:∀ r∈rs,r.length=n) (hc:∀ (i:Nat) r,rs[i]?=some r→∀ (j:Nat) u,r[j]?=some u→w.cell? ⟨g,off + i * n + j,none⟩=some u):∀ j u,rs.flatten[j]?=some u→w.cell? ((⟨g,off,none⟩:Addr).add j)=some u:=by
 have key:∀ (rs:List (List Value)) (o:Nat),(∀ r∈rs,r.length=n)→(∀ (i:Nat) r,rs[i]?=some r→∀ (j:Nat) u,r[j]?=some u→w.cell? ⟨g,o + i * n + j,none⟩=some u)→∀ j u,rs.flatten[j]?=some u→w.cell? ⟨g,o + j,none⟩=some u:=by
  intro rs
  induction rs with
  | nil=>intro o _ _ j u h; simp at h
  | cons r rs ih=>
   intro o hn hc j u h
   rw [List.flatten_cons] at h
   have hr:r.length=n:=hn r (by simp)
   rcases Eu h with h1 | ⟨h1,h2⟩
   ·have:=hc 0 r rfl j u h1
    simpa using this
   ·have:=ih (o + n) (fun r hr=>hn r (by simp [hr])) (fun i r hi j u hu=>by
     have:=hc (i + 1) r (by simpa using hi) j u hu
     rw [Nat.succ_mul] at this
     rw [show o + n + i * n + j=o + (i * n + n) + j by omega]
     exact this) (j - r.length) u h2
    rw [show o + n + (j - r.length)=o + j by omega] at this
    exact this
 intro j u h
 have:=key rs off hn hc j u h
 unfold Addr.add
 split
 ·rename_i hj; subst hj; exact this
 ·simpa using this
theorem VN {n:Nat} {w:World} {ad:Addr} {rs:List (List Value)} (h:CU CG w n (some ad) rs) (hn:∀ r∈rs,r.length=n):∀ j u,rs.flatten[j]?=some u→w.cell? (ad.add j)=some u:=by
 rcases h with h | ⟨g',off',hA,_,hg,hc⟩
 ·subst h
  intro j u hu
  simp at hu
 ·obtain rfl:=Option.some.inj hA
  exact XC hn fun i r hi j u hu=>hc i r hi j u hu
end Go.Proofs.YtmcpjkcggfmcmaaGreatDoor
namespace Go.Proofs.YtmcpjkcggfmcmaaGreatDoor
noncomputable section
open Go.RowKit
set_option maxRecDepth 100000
set_option maxHeartbeats 1000000
attribute [local irreducible] BD Bb AF AG AL A4 Ai AO BO CV Di CC Bp At Fr
def JX:List (Int×Int×Int):=[]
noncomputable def YW:Code:=Tryz.f53.body.getD .skip
def jk:List Item:=AB 60 ([.code YW])
def oy:List Item:=AB 60 (AG jk)
theorem RG (cc:Nat) (w:World):Calls Tryz.prog 53 ([.slice none 0 cc]:List Value).toArray w fun e w'=>∃ (rA0:Option Addr) (rc0:Nat),e=.returned (.slice rA0 ((JX).length) rc0)∧Below w.heap.size w w'∧AY w.heap.size w' [IJ rA0 rc0 (JX)]:=by
 refine Ab (fn:=Tryz.f53) (c:=YW) (n:=8) ?_
 have K1:=Wk.start w
 refine AC jk K1 [] fun w1 K2=>?_
 refine AK true (fun _=>?_) (fun h=>nomatch h)
 have K3:=K2.addNil 97 3 (fun e r=>r=Qx e)
 refine AC oy K3 [] fun w2 K4=>?_
 have hS:(JX)=[]:=by unfold JX; rfl
 exact Aa K4 (0,0) (.slice none 0 0) ⟨none,0,by rw [hS] <;> rfl,K4.B,by rw [hS]; exact K4.own0 [0] rfl (by decide)⟩
def M5 (es:List (Int×Int×Int)):List (Int×Int×Int):=([])++es
noncomputable def YU:Code:=Tryz.f53.body.getD .skip
def aG:List Item:=AB 60 ([.code YU])
def aF:List Item:=AB (As BK 90 (AL aG)) (AL aG)
def ow:List Item:=AB 60 (AF aF)
theorem Vm (aa:Addr) (es:List (Int×Int×Int)) (cc:Nat) (w:World) (h_es:C1 w (some aa) es) (hl_es:es.length≤4294967296):Calls Tryz.prog 53 ([.slice (some aa) es.length cc]:List Value).toArray w fun e w'=>∃ (rA0:Option Addr) (rc0:Nat),e=.returned (.slice rA0 ((M5 es).length) rc0)∧Below w.heap.size w w'∧AY w.heap.size w' [IJ rA0 rc0 (M5 es)]:=by
 refine Ab (fn:=Tryz.f53) (c:=YU) (n:=8) ?_
 have K1:=Wk.start w
 refine AC aG K1 [] fun w1 K2=>?_
 refine AK false (fun h=>nomatch h) (fun _=>?_)
 refine CA BK aF [⟨w1.heap.size,0,[],97,true⟩] K2 [] fun w2 K3=>?_
 have K4:=K3.entRow 0 (g:=w1.heap.size) (U:=97) (n:=3) (fun e r=>r=Qx e) (by kernel_rfl)
 refine fG K4.H (K4.ix 0) (K4.at 0 rfl) es (List.map Qx es) (LA _) aa cc (VN (h_es.below K4.B) (fun r hr=>by obtain ⟨e,_,rfl⟩:=List.mem_map.1 hr; rfl)) (Ck aF) (by kernel_rfl) (.tmp 5) (.tmp 6) 27 (by kernel_rfl) (by kernel_rfl) (by kernel_rfl) (by decide) (by kernel_rfl) (by kernel_rfl) (fun r hr=>by obtain ⟨e,_,rfl⟩:=List.mem_map.1 hr; rfl) (fun r hr=>by obtain ⟨e,_,rfl⟩:=List.mem_map.1 hr; rfl) (by ((try simp only [maxLen,List.length_append,List.length_cons,List.length_nil,List.length_singleton]) <;> omega)) fun A3 c3 w3 Hn b3=>?_
 have K5:=K4.put 0 (by simp) b3 Hn
 refine AC ow K5 [] fun w4 K6=>?_
 have hS:(M5 es)=([])++es:=by unfold M5; rfl
 exact Aa K6 (0,0) (.slice A3 ((([])++es).length) c3) ⟨A3,c3,by rw [hS] <;> rfl,K6.B,by rw [hS]; exact K6.own0 [0] rfl (by decide)⟩
theorem Yc (A:Option Addr) (es:List (Int×Int×Int)) (c:Nat) (w:World) (h_es:C1 w A es) (hl_es:es.length≤4294967296):Calls Tryz.prog 53 ([.slice A es.length c]:List Value).toArray w fun e w'=>∃ (rA0:Option Addr) (rc0:Nat),e=.returned (.slice rA0 es.length rc0)∧Below w.heap.size w w'∧AY w.heap.size w' [IJ rA0 rc0 es]:=by
 cases A with
 | none=>
  rcases h_es with h | ⟨g,off,h,_⟩
  ·have:=congrArg List.length h
   simp at this
   subst this
   exact RG c w
  ·cases h
 | some a=>exact Vm a es c w h_es hl_es
end
end Go.Proofs.YtmcpjkcggfmcmaaGreatDoor

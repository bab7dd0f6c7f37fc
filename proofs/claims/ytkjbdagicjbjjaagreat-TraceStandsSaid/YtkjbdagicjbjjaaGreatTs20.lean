/- Contracts of functions, part 20. -/
import Derived.Test.YtkjbdagicjbjjaaGreatTs19
import Derived.Test.YtkjbdagicjbjjaaGreatTs04
set_option linter.all false
namespace Go.Proofs.YtkjbdagicjbjjaaGreat
noncomputable section
open Go.RowKit
set_option maxRecDepth 100000
set_option maxHeartbeats 1000000
theorem wJ (n d:Int) (f:-1000000000000≤n) (h2:n≤1000000000000) (e:1≤d) (c:d≤1000000) :
  ∃ p q:Int,Kb n d=(p,q,0)∧-1000000000000≤p∧p≤1000000000000∧0≤q∧q≤1000000:=by
 have b:n.natAbs / Nat.gcd n.natAbs d.natAbs≤1000000000000:=Nat.le_trans (Nat.div_le_self _ _) (by omega)
 have a:d.natAbs / Nat.gcd n.natAbs d.natAbs≤1000000:=Nat.le_trans (Nat.div_le_self _ _) (by omega)
 refine ⟨_,_,by unfold Kb; rw [if_neg (by omega)]; exact Po (Lib.hid rfl) rfl rfl b a,?_,?_,?_,?_⟩
 ·generalize n.natAbs / Nat.gcd n.natAbs d.natAbs=x at *
  split <;> omega
 ·generalize n.natAbs / Nat.gcd n.natAbs d.natAbs=x at *
  split <;> omega
 ·exact Int.natCast_nonneg _
 exact Int.ofNat_le.2 a
def aS (b:Nat) (ns:List Int) (w:World) (e:Ending) (w':World):Prop:=
 ∃ n d:Int,(-1000000000000≤n∧n≤1000000000000∧0≤d∧d≤1000000)∧e=.returned (.agg #[δ n,δ d])∧Be b ns w'∧CG b w w'
def Fs (b:Nat) (ns:List Int) (w:World) (e:Ending) (w':World):Prop:=
 ∃ n d:Int,e=.returned (.agg #[δ n,δ d])∧Be b ns w'∧CG b w w'
attribute [local irreducible] BD BP AC AD AF Ar AZ AM Aw Bk C6 BV EE C5 BO At Fr
noncomputable def Xs:Code:=Tryz.f41.body.getD .skip
def jU:=ν [.code Xs]
def jT:=Ω jU
def jS:=Ω jT
def VD:=Ω jS
def jR:=Ξ VD
def jQ:=Ω jR
def Lu:=Ω jQ
def VC:=Ψ VD
def xz:=Ξ VC
def jP:=Ψ VC
def Y1:=Ξ jP
def wC:=Ω Y1
def Y0:=Ω Lu
def wB:=Ψ Y0
theorem Wk.newB {w0 u w:World} {M:List A7} {X T:List Th} {b:Nat} {ns:List Int} (K:Wk w0 u M (BF w0 b ns :: X) T) (f:(ε w0)=b) (_:Below (ε w0) w0 w) (j:Nat) {e:A7} (c:M[j]?=some e):e.id≠b:=fun h=>by
 have d:(M.map Th.ent++((BF w0 b ns :: X)++T))[j]?=some (Th.ent e):=by
  have a:=(List.getElem?_eq_some_iff.1 c).1
  rw [List.getElem?_append_left (by rw [List.length_map]; exact a),List.getElem?_map,c]
  rfl
 have a:=(List.getElem?_eq_some_iff.1 c).1
 exact K.H.apart j (K.ix 0) _ _ d (K.at 0 rfl) (by unfold Wk.ix; omega) e.id rfl h
theorem l4 (b:Nat) (ns:List Int) (w:World) (hT:Be b ns w):Calls Tryz.prog 41 ([ζ b]:List Value).toArray w (aS b ns w):=by
 refine AS (fn:=Tryz.f41) (c:=Xs) (n:=47) ?_
 obtain ⟨w0,f,K0⟩:=Wk.tape hT
 have hw:=K0.B
 refine Ah jU [ι (ε w) [δ 0,δ 0] 41] K0 [] fun w1 K1=>?_
 refine BK K1 f 0 rfl (BR b ns 41 _ (K1.tapeOk f 0 rfl) (by omega) (by omega)) BX.ok fun e w2 g K2=>?_
 obtain ⟨k1,r0,rfl,_,_⟩:=g
 refine ⟨_,rfl,?_⟩
 refine AB jT K2 [] fun w3 K3=>?_
 refine BK K3 f 0 rfl (BR b ns 12 _ (K3.tapeOk f 0 rfl) (by omega) (by omega)) BX.ok fun e w4 g K4=>?_
 obtain ⟨k3,q0,rfl,_,_⟩:=g
 refine ⟨_,rfl,?_⟩
 refine AB jS K4 [] fun w5 K5=>?_
 refine BK K5 f 0 rfl (BR b ns 8 _ (K5.tapeOk f 0 rfl) (by omega) (by omega)) BX.ok fun e w6 g K6=>?_
 obtain ⟨k5,p0,rfl,_,_⟩:=g
 refine ⟨_,rfl,?_⟩
 have fin:∀ (n d:Int) (E:Nat→Value) (M:List A7) (u:World),-1000000000000≤n→n≤1000000000000→1≤d→d≤1000000→Wk w0 u ((ι (ε w) [δ 0,δ 0] 41) :: M) [BF w0 b ns,Bh b w] []→At Tryz.prog 41 (aS b ns w) Lu (Fr 47 (BE E [(2,ζ (ε w)),(3,δ (n)),(36,δ (n)),(37,δ (d))])) u:=fun n d E M u a1 a2 a3 a4 Ku=>by
  obtain ⟨p,q,b0,hb⟩:=wJ n d a1 a2 a3 a4
  have hc:=fv n d u (by omega) (by omega) (by omega) (by omega)
  rw [b0] at hc
  refine AP (Ku.pk [0] [0,1] (M':=[ι (ε w) [δ 0,δ 0] 41]) (L':=[BF w0 b ns,Bh b w])) (args:=[δ n,δ d]) (v:=.tuple #[.agg #[δ p,δ q],δ 0]) hc fun s K7=>?_
  refine Ah Y0 [ι (ε w) [δ 0,δ 0] 41,ι (ε s) [δ p,δ q] 41] K7 [(1,0)] fun w8 r=>?_
  refine AG false (fun h=>absurd h Bool.false_ne_true) (fun _=>?_)
  refine Ah wB [ι (ε w) [δ p,δ q] 41,ι (ε s) [δ p,δ q] 41] r [(1,0),(0,0)] fun t m=>?_
  exact AK m (0,0) (ψ [δ p,δ q]) ⟨p,q,hb,rfl,m.out f hw⟩
 refine AB VD K6 [] fun s K7=>?_
 refine AG ((k5:Int) == 5) (fun _=>?_) (fun _=>?_)
 ·refine Ah jR [ι (ε w) [δ 0,δ 0] 41,ι (ε s) [δ (1000000000000),δ (-1000000000000),δ (999999999999),δ (999999)] 3] K7 [] fun w8 r=>?_
  refine BK r f 0 rfl (JJ b ns (ε s) [1000000000000,-1000000000000,999999999999,999999] 4 _ (r.tapeOk f 0 rfl) (r.newB f hw 1 rfl) (by decide) (by decide) (r.ent 1 rfl)) (fun _ _ ⟨_,_,_,z,h2⟩=>⟨z,h2⟩) fun e t g m=>?_
  obtain ⟨n,hn,rfl,_,_⟩:=g
  refine ⟨_,rfl,?_⟩
  refine Ah jQ [ι (ε w) [δ 0,δ 0] 41,ι (ε s) [δ (1000000000000),δ (-1000000000000),δ (999999999999),δ (999999)] 3,ι (ε t) [δ (1),δ (1000000),δ (7),δ (100)] 3] m [] fun o a=>?_
  refine BK a f 0 rfl (JJ b ns (ε t) [1,1000000,7,100] 4 _ (a.tapeOk f 0 rfl) (a.newB f hw 2 rfl) (by decide) (by decide) (a.ent 2 rfl)) (fun _ _ ⟨_,_,_,z,h2⟩=>⟨z,h2⟩) fun e j g l=>?_
  obtain ⟨d,hd,rfl,_,_⟩:=g
  refine ⟨_,rfl,?_⟩
  refine AB Lu l [] fun x i=>?_
  refine AU [(2,ζ (ε w)),(3,δ (n)),(36,δ (n)),(37,δ (d))] fun g0=>?_
  have y:-1000000000000≤n∧n≤1000000000000:=by simp at hn; omega
  have k:1≤d∧d≤1000000:=by simp at hd; omega
  exact fin n d g0 _ x y.1 y.2 k.1 k.2 i
 refine AB VC K7 [] fun w8 r=>?_
 refine AG ((k5:Int) == 6) (fun _=>?_) (fun _=>?_)
 ·refine AB xz r [] fun t m=>?_
  refine BK m f 0 rfl (BR b ns 200001 _ (m.tapeOk f 0 rfl) (by omega) (by omega)) BX.ok fun e o g a=>?_
  obtain ⟨k9,m0,rfl,_,_⟩:=g
  refine ⟨_,rfl,?_⟩
  refine AB Lu a [] fun j l=>?_
  refine AU [(2,ζ (ε w)),(3,δ (IntKind.i64.wrap ((k9:Int) - 100000))),(36,δ (IntKind.i64.wrap ((k9:Int) - 100000))),(37,δ (100))] fun i0=>?_
  exact fin _ 100 i0 [] j (by rw [IntWalk.i64_in _ (by omega)]; omega) (by rw [IntWalk.i64_in _ (by omega)]; omega) (by decide) (by decide) l
 refine AB jP r [] fun t m=>?_
 refine AG ((k5:Int) == 7) (fun _=>?_) (fun _=>?_)
 ·refine AB Y1 m [] fun o a=>?_
  refine BK a f 0 rfl (BR b ns 1000 _ (a.tapeOk f 0 rfl) (by omega) (by omega)) BX.ok fun e j g l=>?_
  obtain ⟨ka,l0,rfl,_,_⟩:=g
  refine ⟨_,rfl,?_⟩
  refine Ah wC [ι (ε w) [δ 0,δ 0] 41,ι (ε j) [δ (1000000),δ (999983),δ (65536),δ (1000)] 3] l [] fun x i=>?_
  refine BK i f 0 rfl (JJ b ns (ε j) [1000000,999983,65536,1000] 4 _ (i.tapeOk f 0 rfl) (i.newB f hw 1 rfl) (by decide) (by decide) (i.ent 1 rfl)) (fun _ _ ⟨_,_,_,z,h2⟩=>⟨z,h2⟩) fun e k0 g d0=>?_
  obtain ⟨d,hd,rfl,_,_⟩:=g
  refine ⟨_,rfl,?_⟩
  refine AB Lu d0 [] fun a0 c0=>?_
  refine AU [(2,ζ (ε w)),(3,δ ((ka:Int))),(36,δ ((ka:Int))),(37,δ (d))] fun e0=>?_
  have k:1≤d∧d≤1000000:=by simp at hd; omega
  exact fin _ d e0 _ a0 (by omega) (by omega) k.1 k.2 c0
 refine AB Lu m [] fun o a=>?_
 refine AU [(2,ζ (ε w)),(3,δ (IntKind.i64.wrap ((k1:Int) - 20))),(36,δ (IntKind.i64.wrap ((k1:Int) - 20))),(37,δ (IntKind.i64.wrap (1 + (k3:Int))))] fun j0=>?_
 exact fin _ _ j0 [] o (by rw [IntWalk.i64_in _ (by omega)]; omega) (by rw [IntWalk.i64_in _ (by omega)]; omega) (by rw [IntWalk.i64_in _ (by omega)]; omega) (by rw [IntWalk.i64_in _ (by omega)]; omega) a
noncomputable def Xr:Code:=Tryz.f27.body.getD .skip
def jO:=ν [.code Xr]
def jN:=Ω jO
def VB:=Ω jN
def xy:=Ξ VB
def VA:=Ψ VB
def jM:=Ξ VA
def xx:=Ω jM
def xw:=Ψ VA
theorem Ns (b:Nat) (ns:List Int) (w:World) (u:Be b ns w):Calls Tryz.prog 27 ([ζ b]:List Value).toArray w (Fs b ns w):=by
 refine AS (fn:=Tryz.f27) (c:=Xr) (n:=25) ?_
 obtain ⟨w0,a,t⟩:=Wk.tape u
 have i:=t.B
 refine Ah jO [ι (ε w) [δ 0,δ 0] 41] t [] fun w1 s=>?_
 refine BK s a 0 rfl (l4 b ns _ (s.tapeOk a 0 rfl)) (fun _ _ ⟨_,_,_,_,m,h2⟩=>⟨m,h2⟩) fun e g h z=>?_
 obtain ⟨n,d,_,rfl,_,_⟩:=h
 refine ⟨_,rfl,?_⟩
 refine Ah jN [ι (ε w) [δ 0,δ 0] 41,ι (ε g) [δ n,δ d] 41] z [(1,0)] fun w3 r=>?_
 refine BK r a 0 rfl (BR b ns 10 _ (r.tapeOk a 0 rfl) (by omega) (by omega)) BX.ok fun e w4 h y=>?_
 obtain ⟨k,hk,rfl,_,_⟩:=h
 refine ⟨_,rfl,?_⟩
 refine AB VB y [] fun w5 q=>?_
 refine AG ((k:Int) == 8) (fun _=>?_) (fun _=>?_)
 ·refine Ah xy [ι (ε w) [δ (IntKind.i64.wrap (2 * n)),δ (IntKind.i64.wrap (2 * d))] 41,ι (ε g) [δ (IntKind.i64.wrap (2 * n)),δ (IntKind.i64.wrap (2 * d))] 41] q [(1,0),(1,1),(1,0),(1,1),(1,0),(0,0)] fun o f=>?_
  exact AK f (0,0) (ψ [δ (IntKind.i64.wrap (2 * n)),δ (IntKind.i64.wrap (2 * d))]) ⟨_,_,rfl,f.out a i⟩
 refine AB VA q [] fun l p=>?_
 refine AG ((k:Int) == 9) (fun _=>?_) (fun _=>?_)
 ·refine Ah jM [ι (ε w) [δ 0,δ 0] 41,ι (ε g) [δ n,δ d] 41,ι (ε l) [δ (0),δ (-1),δ (1000001)] 3] p [] fun w7 j=>?_
  refine BK j a 0 rfl (JJ b ns (ε l) [0,-1,1000001] 3 _ (j.tapeOk a 0 rfl) (j.newB a i 2 rfl) (by decide) (by decide) (j.ent 2 rfl)) (fun _ _ ⟨_,_,_,m,h2⟩=>⟨m,h2⟩) fun e w8 h v=>?_
  obtain ⟨x,hx,rfl,_,_⟩:=h
  refine ⟨_,rfl,?_⟩
  refine Ah xx [ι (ε w) [δ (n),δ (x)] 41,ι (ε g) [δ (n),δ (x)] 41,ι (ε l) [δ (0),δ (-1),δ (1000001)] 3] v [(1,1),(1,0),(0,0)] fun o f=>?_
  exact AK f (0,0) (ψ [δ (n),δ (x)]) ⟨_,_,rfl,f.out a i⟩
 refine Ah xw [ι (ε w) [δ (n),δ (d)] 41,ι (ε g) [δ (n),δ (d)] 41] p [(1,0),(0,0)] fun o f=>?_
 exact AK f (0,0) (ψ [δ (n),δ (d)]) ⟨_,_,rfl,f.out a i⟩
end
end Go.Proofs.YtkjbdagicjbjjaaGreat
namespace Go.Proofs.YtkjbdagicjbjjaaGreat
open Go.RowKit
set_option maxRecDepth 100000
set_option maxHeartbeats 1000000
attribute [local irreducible] BD BP AC AD AF Ar AZ AM Aw Bk C6 BV BO At Fr
end Go.Proofs.YtkjbdagicjbjjaaGreat
namespace Go.Proofs.YtkjbdagicjbjjaaGreat
noncomputable section
open Go.RowKit
set_option maxRecDepth 100000
set_option maxHeartbeats 1000000
theorem Aj.mono {b a:Nat} {w:World} {L:List Th} (h:Aj b w L) (hb:a≤b):Aj a w L:=
 ⟨Nat.le_trans hb h.base,h.all,fun i t ht k hf=>⟨Nat.le_trans hb (h.lo i t ht k hf).1,(h.lo i t ht k hf).2⟩,h.apart⟩
section
variable {P:Program} {α:Type} {T:TypeId} {n:Nat} {rel:α→List Value→Prop} {b:Nat} {A:Option Addr} {c:Nat} {l:List α} {L:List Th} {w:World} {k:Nat} {E:Nat→Value}
theorem PS (H:Aj b w L) (i:Nat) (hi:L[i]?=some (Th.row T n rel A c l)) (e:α) (row:List Value) (a0:rel e row) (g:Nat)
  (y:A7.good w ⟨g,0,row,T,true⟩) (o:Oper) (s x:Operand) (t:TypeId) (ho:o.op=.call { callee:=.builtin .append,args:=#[s,x],argTypes:=#[t,t] })
  (ht:P.underlying t=some (.slice T)) (a:(P.info? T).map (fun i=>(i.zero.map (·.cells.size),i.size,Nat.ble i.bytes 1024))=some (some n,n,true)) (e0:0 < n)
  (hs:A8 k E s=.slice A l.length c) (hx:A8 k E x=.slice (some ⟨g,0,none⟩) 1 1) (hn:row.length=n) (h1:row.all (·.oneCell')=true) (b0:l.length + 1≤100000000000) :
  ∃ A' c' w',(execOp (A8 k E) o).run P w=.ok (.value (.slice A' (l++[e]).length c')) w'∧Aj b w' (L.set i (Th.row T n rel A' c' (l++[e])))∧Below b w w':=by
 obtain ⟨rs,g0,hP⟩:(Th.row T n rel A c l).P w:=H.all i _ hi
 obtain ⟨d,j0,z,hz,d0,p,k0⟩:∃ d,P.info? T=some d∧∃ z,d.zero=some z∧z.cells.size=n∧d.size=n∧d.bytes≤1024:=by
  cases hi:P.info? T with
  | none=>rw [hi] at a; cases a
  | some d=>
   rw [hi] at a
   simp only [Option.map_some,Option.some.injEq,Prod.mk.injEq,Option.map_eq_some_iff] at a
   obtain ⟨⟨z,h1,h2⟩,m,h4⟩:=a
   exact ⟨d,rfl,z,h1,h2,m,Nat.le_of_ble_eq_true h4⟩
 have l0:l.length + 1≤maxLen:=by unfold maxLen; omega
 have h:(l.length + 1) * d.bytes≤140737488355328:=Nat.le_trans (Nat.mul_le_mul b0 k0) (by decide)
 have v:∀ j u,row[j]?=some u→w.cell? ((⟨g,0,none⟩:Addr).add j)=some u:=fun j u hu=>by
  have c0:(⟨g,0,none⟩:Addr).add j=⟨g,j,none⟩:=by
   unfold Addr.add
   split
   ·rename_i hj; rw [hj]
   simp
  rw [c0]
  exact Ec y hu rfl (by show j=0 + j; omega) rfl
 obtain ⟨v',w',hr,h2,m,_,h5⟩:=run_append_own_at (P:=P) (w:=w) 0 t o.type T d z n d.bytes ht j0 hz p rfl d0 e0 _ _ _ hP ⟨g,0,none⟩ 1 1 row (by rw [hn,Nat.one_mul]) v (fun u hu=>List.all_eq_true.1 h1 u hu) l0 h (Nat.zero_le _)
 have hv:∃ f c',v'=.slice (some ⟨f,0,none⟩) (l.length + 1) c':=by
  rcases h2.2 with ⟨_,h0⟩ | ⟨f,cap,m0,rfl,_⟩
  ·omega
  exact ⟨f,cap,rfl⟩
 obtain ⟨f,c',rfl⟩:=hv
 refine ⟨some ⟨f,0,none⟩,c',w',?_,H.set i hi m.size ⟨rs++[row],NX a0 g0,?_⟩ (fun q hq=>?_) (fun q hq i0=>m.block q hq fun he=>i0 (Dj hP he.symm).1),⟨m.os,m.tape,m.output,m.size,fun q hq=>m.block q (Nat.lt_of_lt_of_le hq H.base) fun he=>?_⟩⟩
 ·unfold execOp
  simp only [ho,resolve,invoke,builtin,Sem.run_bind,Sem.run_pure,Result.andThen_ok,List.map_toArray,List.map_cons,List.map_nil,hs,hx,hr]
  rw [List.length_append,List.length_singleton]
 ·rw [List.length_append,List.length_singleton,List.flatten_append]
  simpa using h2
 ·have r:some (⟨f,0,none⟩:Addr)=some ⟨q,0,none⟩:=hq
  obtain rfl:f=q:=by injection r with r; injection r
  refine ⟨(Mb h2 (g:=f) rfl).2,?_⟩
  rcases h5 with h5 | h5
  ·exact .inl (Dj hP (h5.symm.trans rfl)).1
  right
  have:f=w.heap.size:=Option.some.inj (show some f=some w.heap.size from h5)
  omega
 have:=(H.lo i _ hi q (Dj hP he.symm).1).1
 omega
end
section
variable {P:Program} {ops:Array Oper} {Q:Exit→Act→World→Prop} {md:Region.Mode} {n:Nat} {E:Nat→Value}
theorem Ii {a:Array Bool} {fuel i:Nat} {w w':World} {v:Value} (o:Oper) (hx:(execOp (A8 n E) o).run P w=.ok (.value v) w') (b:wpAny P md ops Q fuel (a.setIfInBounds i true) (Fr n (Aw E o.dst v)) w') (hr:Region.ready md ops a=[i]:=by kernel_rfl) (ho:ops[i]?=some o:=by kernel_rfl) (hg:o.guard=none:=by kernel_rfl):wpAny P md ops Q (fuel + 1) a (Fr n E) w:=by
 refine KH hr ho hg ?_
 unfold Oper.wp
 rw [D7,hx]
 rw [← El] at b
 exact b
theorem MA {a:Array Bool} {fuel i:Nat} {w w':World} (o:Oper) (hr:Region.ready md ops a=[i]) (ho:ops[i]?=some o) (hg:o.guard=none)
  (hx:(execOp (A8 n E) o).run P w=.ok .skip w') (b:wpAny P md ops Q fuel (a.setIfInBounds i true) (Fr n (Aw E o.dst undef)) w'):wpAny P md ops Q (fuel + 1) a (Fr n E) w:=by
 refine KH hr ho hg ?_
 unfold Oper.wp
 rw [D7,hx]
 rw [← El] at b
 exact b
end
section
variable {P:Program} {ops:Array Oper} {Q:Exit→Act→World→Prop} {md:Region.Mode} {n:Nat} {E:Nat→Value}
theorem Gh {b:Array Bool} {fuel i:Nat} {w:World} {v:Value} (o:Oper) (g:∀ c a w,Q (.panic c) (a.put o.dst v) w→Q (.panic c) a w) (f:wpAny P md ops Q fuel (b.setIfInBounds i true) (Fr n (Aw E o.dst v)) w) (ho:ops[i]?=some o:=by kernel_rfl) (hg:o.guard=none:=by kernel_rfl) (hs:Region.noSelect ops=true:=by kernel_rfl) (hf:Region.free md ops b i=true:=by kernel_rfl) (hr:(Region.ready md ops b).contains i=true:=by kernel_rfl) (hv:(Dh P (execOp (A8 n E) o) ⟨0,[],(0,0),[]⟩).map (fun p=>(p.1,p.2.eqs))=some (.value v,[]):=by kernel_rfl):wpAny P md ops Q (fuel + 1) b (Fr n E) w:=by
 refine wpAny_take ho hs hf hr g (.inl ⟨?_,fun u=>?_⟩) (by rw [El]; exact f)
 ·unfold Region.wanted
  rw [hg]
 rw [D7]
 cases hl:Dh P (execOp (A8 n E) o) ⟨0,[],(0,0),[]⟩ with
 | none=>rw [hl] at hv; cases hv
 | some p=>
  obtain ⟨r,h⟩:=p
  rw [hl] at hv
  simp only [Option.map_some,Option.some.injEq,Prod.mk.injEq] at hv
  obtain ⟨rfl,h2⟩:=hv
  exact F4 _ _ _ _ hl (fun e he=>by cases he) (fun q d=>by rw [h2] at d; cases d)
end
theorem Aj.addFam {β:Type} {b:Nat} {w:World} {L:List Th} (h:Aj b w L) (f:β→Th):Aj b w (L++[Th.all (([]:List β).map f)]):=
 h.add _ (fun u hu=>by simp at hu) (fun k ⟨u,hu,_⟩=>by simp at hu)
theorem Wk.addFam {β:Type} {w0 w:World} {M:List A7} {L T:List Th} (K:Wk w0 w M L T) (f:β→Th):Wk w0 w M (L++[Th.all (([]:List β).map f)]) T:=K.join (Below.refl _ _) ((Aj.nil (Nat.le_refl _)).addFam f)
def Hh:Op→Bool
 | .fieldAddr _ _ _=>true
 | _=>false
theorem Xb {S:Nat→Prop} {w:World} {e:Ex} (h:e.ks=[]):DE S w e (AX e none 0):=Ob (ks:=[]) (by rw [h]; unfold FU; rfl) (.inl rfl)
theorem LD.leaf {b:Nat} {ns:List Int} {n:Int} {h:Nat} {t:Ty} {w w':World} {x:Ex} (hx:CT n h t x) (a:x.ks=[]) (ho:Be b ns w'∧CG b w w'):LD b ns n h t w (.returned (ψ (AX x none 0))) w':=⟨x,none,0,rfl,hx,Xb a,ho⟩
theorem Il {t s:Ty} (h:Hc t s=true):t=s:=by
 obtain ⟨a,b,c,d⟩:=t
 obtain ⟨i,g,f,e⟩:=s
 unfold Hc at h
 simp only [Bool.and_eq_true,beq_iff_eq] at h
 obtain ⟨rfl,rfl,rfl,rfl⟩:=h
 rfl
theorem vq {t:Ty} (h:t∈EG) (c:Hc t DG=false) (h2:Hc t Cb=false) (b:Hc t De=false) (a:Hc t BU=false):t=BC:=by
 simp only [EG,List.mem_cons,List.not_mem_nil,or_false] at h
 rcases h with rfl | rfl | rfl | rfl | rfl
 ·rfl
 ·cases h2
 ·cases b
 ·cases a
 cases c
attribute [local irreducible] BD BP AC AD AF Ar AZ AM Aw Bk C6 BV Fo EE C5 BO At Fr
noncomputable def Z8:Code:=Tryz.f31.body.getD .skip
def cU:=ν [.code Z8]
def sZ:=AA (An (Ei) 90 (AC cU)) (AC cU)
def Tt:=Ω sZ
def cT:=AA (An (Bp) 90 (AD Tt)) (AD Tt)
def cS:=Ω cT
def cR:=AA (An (Bp) 90 (AD cS)) (AD cS)
def Tr:=Ω cR
def Tq:=Ω Tr
def sY:=Ξ Tq
def ADJ:=Ω sY
def Gt:=AA (An (Hh) 90 (AF Tq)) (AF Tq)
def VP:=Ψ Tt
def jj:=AA (An (Ei) 90 (AC VP)) (AC VP)
def VO:=Ω jj
def ji:=Ξ VO
def VN:=Ω ji
def jh:=Ξ VN
def jg:=Ω jh
def yE:=Ω jg
def VM:=Ψ VN
def VL:=AA (An (Bp) 90 (AD VM)) (AD VM)
def QR:=Ω VL
def QQ:=AA (An (Bp) 90 (AD QR)) (AD QR)
def VK:=Ψ VO
def jf:=AA (An (Ei) 90 (AC VK)) (AC VK)
def QP:=Ω jf
def VJ:=AA (An (Bp) 90 (AD QP)) (AD QP)
def je:=Ω VJ
def jd:=Ω je
def jc:=Ξ jd
def jb:=Ω jc
def yD:=Ω jb
def VI:=Ψ QP
def ja:=AA (An (Ei) 90 (AC VI)) (AC VI)
def QO:=Ω ja
def VH:=Ξ QO
def jZ:=AA (An (Bp) 90 (AD VH)) (AD VH)
def VG:=AA (An (Bp) 90 (AF QO)) (AF QO)
def VF:=Ω VG
def jY:=AA (An (Bp) 90 (AD VF)) (AD VF)
def jX:=ν Gt
def KP:=Ω jX
def VE:=Ξ KP
def jW:=AA (An (Ae) 90 (AC VE)) (AC VE)
def yC:=ν (AC (AC jW))
def jV:=Ψ KP
def yB:=AI jV
theorem GH {R:Ending→World→Prop} {b:Nat} {ns:List Int} {n:Int} {h:Nat} {t:Ty} {w w0 u:World} {A:Option Addr} {c:Nat} {l:List (List UInt8)} {E:Nat→Value} (j:(ε w0)=b) (hw:Below (ε w0) w0 w) (h5:t∈EG) (hl:∀ nm∈l,nm∈Ke t n) (b0:t.1=true→0 < l.length) (c0:l.length≤2) (hR:∀ e w',LD b ns n (h + 1) t w e w'→R e w')
  (K:Wk w0 u [ι (ε w) (Ax t) 56,ι (ε w + 1) (AX BM none 0) 53] [BF w0 b ns,Bh b w,HO A c l] []):At Tryz.prog 31 R Gt (Fr 106 (BE E [(0,ζ b),(4,ζ (ε w)),(6,ζ (ε w + 1)),(7,τ A l.length c),(84,ξ (decide (0 < (l.length:Int))))])) u:=by
 have num:∀ u (E:Nat→Value),t.1=false→Wk w0 u [ι (ε w) (Ax t) 56,ι (ε w + 1) (AX BM none 0) 53] [BF w0 b ns,Bh b w,HO A c l] []→At Tryz.prog 31 R (AF KP) (Fr 106 (BE E [(0,ζ b),(4,ζ (ε w)),(6,ζ (ε w + 1))])) u:=by
  intro u E ht K
  refine AB jV K [] fun i d=>?_
  refine Ek d j 0 rfl [0,1,2,3] [ι (ε w) (Ax t) 56] [(3,0,1)] [(1,fun v _=>∃ q∈Hm,v=ψ [δ q.1,δ q.2])] 2 (fun u hu e he=>by rw [List.mem_singleton.1 he]; exact hu.ent 0 rfl) (fun p s v u u' _ h=>by rw [List.mem_singleton.1 s] at h ⊢; exact h) (fun p s X u hu hb hf=>?_) fun X u hu hb hf=>?_
  ·rw [List.mem_singleton.1 s]
   exact Bn (g:=34) (xs:=[.tmp 101]) (args:=[ζ b]) ((ABc b ns u (hu.tapeOk j 0 rfl)).mono fun e w' hh=>by
    obtain ⟨q,m,rfl,h1,h2⟩:=hh
    exact ⟨_,rfl,h1,h2,q,m,rfl⟩) rfl
  obtain ⟨q,m,hX⟩:∃ q∈Hm,X 1=ψ [δ q.1,δ q.2]:=hf 1 (by simp) rfl
  refine Bs [(6,ζ (ε w + 1)),(102,X 1),(104,ψ [δ t.2.1,δ t.2.2.1,δ t.2.2.2])] fun E2=>?_
  rw [hX]
  refine Do hu [(4,0,0),(5,1,0)] (fun _=>[ι (ε w) (Ax t) 56,ι (ε w + 1) (AX (.mk 1 q.1 q.2 t.2.1 t.2.2.1 t.2.2.2 [] 0 0 []) none 0) 53]) fun z w3 f=>?_
  refine Ah yB [ι (ε w) (Ax t) 56,ι (ε w + 1) (AX (.mk 1 q.1 q.2 t.2.1 t.2.2.1 t.2.2.2 [] 0 0 []) none 0) 53] f [] fun w4 K4=>?_
  exact AK K4 (1,0) (ψ (AX (.mk 1 q.1 q.2 t.2.1 t.2.2.1 t.2.2.2 [] 0 0 []) none 0)) (hR _ _ (.leaf (.num h t q ht h5 m) rfl (K4.out j hw)))
 have nam:∀ u (E:Nat→Value),0 < l.length→Wk w0 u [ι (ε w) (Ax t) 56,ι (ε w + 1) (AX BM none 0) 53] [BF w0 b ns,Bh b w,HO A c l] []→At Tryz.prog 31 R (AD KP) (Fr 106 (BE E [(0,ζ b),(4,ζ (ε w)),(6,ζ (ε w + 1)),(7,τ A l.length c)])) u:=by
  intro u E a K
  refine AB VE K [] fun i d=>?_
  refine BK d j 0 rfl (BR b ns l.length i (d.tapeOk j 0 rfl) (by omega) (by omega)) BX.ok fun e w2 m K2=>?_
  obtain ⟨k,hk,rfl,_,_⟩:=m
  refine ⟨_,rfl,?_⟩
  have a0:k < l.length:=by omega
  obtain ⟨nm,y⟩:∃ x,l[k]?=some x:=⟨_,List.getElem?_eq_getElem a0⟩
  refine Ak Ae jW K2 [] fun w3 f=>?_
  obtain ⟨g,off,rfl,hg,hr⟩:=(f.H.rowsStr (f.ix 2) (f.at 2 rfl)).all a
  refine Ay (g:=g) (off:=off) (cap:=c) (sz:=1) (k:=k) (len:=l.length) (some 98) a0 Tryz.underlying65 ?_
  refine Dz 9 g (off + k * 1) (η nm) (some 99) (hr k nm y 0 _ rfl) ?_
  refine Ah yC [ι (ε w) (Ax t) 56,ι (ε w + 1) (AX (.mk 3 0 0 0 0 0 nm 0 0 []) none 0) 53] f [(1,0)] fun w4 K4=>?_
  exact AK K4 (1,0) (ψ (AX (.mk 3 0 0 0 0 0 nm 0 0 []) none 0)) (hR _ _ (.leaf (.name h t nm (hl nm (List.mem_of_getElem? y))) rfl (K4.out j hw)))
 cases a:l with
 | nil=>
  subst a
  have ht:t.1=false:=by
   cases ht:t.1
   ·rfl
   exact absurd (b0 ht) (Nat.lt_irrefl 0)
  refine AB KP K [(0,0)] fun i d=>?_
  refine AG false (fun h=>by cases h) (fun _=>?_)
  refine AU [(0,ζ b),(4,ζ (ε w)),(6,ζ (ε w + 1))] fun o=>?_
  exact num i o ht d
 | cons x r=>
  rw [← a]
  have s:0 < l.length:=by rw [a]; exact Nat.succ_pos _
  rw [show decide (0 < (l.length:Int))=true from decide_eq_true (by omega)]
  rcases t with ⟨tb,tr⟩
  cases tb
  ·refine AB jX K [(0,0)] fun i d=>?_
   refine BK d j 0 rfl (BR b ns 3 i (d.tapeOk j 0 rfl) (by omega) (by omega)) BX.ok fun e w2 m K2=>?_
   obtain ⟨k,hk,rfl,_,_⟩:=m
   refine ⟨_,rfl,?_⟩
   refine AB KP K2 [] fun w3 f=>?_
   refine AG (decide (0 < (k:Int))) (fun _=>?_) (fun _=>?_)
   ·refine AU [(0,ζ b),(4,ζ (ε w)),(6,ζ (ε w + 1)),(7,τ A l.length c)] fun o=>?_
    exact nam w3 o s f
   refine AU [(0,ζ b),(4,ζ (ε w)),(6,ζ (ε w + 1))] fun o=>?_
   exact num w3 o rfl f
  refine AB KP K [(0,0)] fun i d=>?_
  refine AG true (fun _=>?_) (fun h=>by cases h)
  refine AU [(0,ζ b),(4,ζ (ε w)),(6,ζ (ε w + 1)),(7,τ A l.length c)] fun o=>?_
  exact nam i o s d
theorem AEh (b:Nat) (ns:List Int) (n:Int) (h:Nat) (t:Ty) (h5:t∈EG) (w:World) (hT:Be b ns w):Calls Tryz.prog 31 ([ζ b,ψ (Ax t),δ n]:List Value).toArray w (LD b ns n (h + 1) t w):=by
 refine AS (fn:=Tryz.f31) (c:=Z8) (n:=106) ?_
 obtain ⟨w0,i,K0⟩:=Wk.tape hT
 have hw:=K0.B
 refine Ah cU [ι (ε w) (Ax t) 56,ι (ε w + 1) (AX BM none 0) 53] (K0.addNil 9 1 (fun e r=>r=Jj e)) [(0,0)] fun w1 K1=>?_
 refine AP K1 (args:=[]) (LE _) fun w2 K2=>?_
 refine Ak Ei sZ K2 [] fun w3 K3=>?_
 refine DN (DD (k:=.eql) (T:=56) (a:=ψ (Ax t)) (b:=ψ (Ax DG)) (EL _ _ _ _ _ _ _ _ _)) ?_
 refine AB Tt K3 [] fun w4 K4=>?_
 refine AG (Hc t DG) (fun ct=>?_) (fun ct=>?_)
 ·have e1:=Il ct
  refine CY Bp cT [ι (ε w) (Ax t) 56,ι (ε w + 1) (AX BM none 0) 53,ι (ε w4) [η [102]] 9] K4 [] fun w5 K5=>?_
  refine Cw K5.H (K5.ix 2) (K5.at 2 rfl) [102] (Jj [102]) rfl (ε w4) (K5.ent 2 (by kernel_rfl)) (CL cT) (by kernel_rfl) (.tmp 20) (.tmp 21) 65 (by kernel_rfl) (by kernel_rfl) (by kernel_rfl) (by decide) (by kernel_rfl) (by kernel_rfl) rfl rfl (by decide) fun A5 c5 w6 t1 b5=>?_
  have K6:Wk w0 w6 [ι (ε w) (Ax t) 56,ι (ε w + 1) (AX BM none 0) 53] [BF w0 b ns,Bh b w,HO A5 c5 [[102]]] []:=(K5.put 2 (by simp) b5 t1).pk [0,1] [0,1,2]
  refine AB cS K6 [] fun w7 K7=>?_
  have fin:∀ (A:Option Addr) (c:Nat) (l:List (List UInt8)) (u:World) (E:Nat→Value),0 < l.length→l.length≤2→(∀ nm∈l,nm∈Ke t n)→Wk w0 u [ι (ε w) (Ax t) 56,ι (ε w + 1) (AX BM none 0) 53] [BF w0 b ns,Bh b w,HO A c l] []→At Tryz.prog 31 (LD b ns n (h + 1) t w) Tr (Fr 106 (BE E [(0,ζ b),(4,ζ (ε w)),(6,ζ (ε w + 1)),(7,τ A l.length c),(28,ζ b)])) u:=fun A c l u E q1 p1 hl K=>by
   refine BK K i 0 rfl (BR b ns 2 _ (K.tapeOk i 0 rfl) (by omega) (by omega)) BX.ok fun e w8 hq K8=>?_
   obtain ⟨k8,b2,rfl,_,_⟩:=hq
   refine ⟨_,rfl,?_⟩
   refine AB Tq K8 [] fun w9 x=>?_
   refine AG ((k8:Int) == 0) (fun _=>?_) (fun _=>?_)
   ·refine AB sY x [] fun z f=>?_
    refine BK f i 0 rfl (BR b ns 2 _ (f.tapeOk i 0 rfl) (by omega) (by omega)) BX.ok fun e s hq j=>?_
    obtain ⟨c1,z1,rfl,_,_⟩:=hq
    refine ⟨_,rfl,?_⟩
    refine Ah ADJ [ι (ε w) (Ax t) 56,ι (ε w + 1) (AX (.mk 2 0 0 0 0 0 [] (c1:Int) 0 []) none 0) 53] j [(1,0)] fun o d=>?_
    refine AK d (1,0) (ψ (AX (.mk 2 0 0 0 0 0 [] (c1:Int) 0 []) none 0)) (.leaf ?_ rfl (d.out i hw))
    rw [e1]
    exact .tru h _ (by omega)
   refine Ak Hh Gt x [] fun z f=>?_
   refine AU [(0,ζ b),(4,ζ (ε w)),(6,ζ (ε w + 1)),(7,τ A l.length c),(84,ξ (decide (0 < (l.length:Int))))] fun d2=>?_
   exact GH i hw h5 hl (fun _=>q1) p1 (fun _ _ h=>h) f
  refine AG (decide (3 < n)) (fun c2=>?_) (fun c2=>?_)
  ·skip
   refine CY Bp cR [ι (ε w) (Ax t) 56,ι (ε w + 1) (AX BM none 0) 53,ι (ε w7) [η [114,51]] 9] K7 [] fun z f=>?_
   refine Cw f.H (f.ix 2) (f.at 2 rfl) [114,51] (Jj [114,51]) rfl (ε w7) (f.ent 2 (by kernel_rfl)) (CL cR) (by kernel_rfl) (.tmp 25) (.tmp 26) 65 (by kernel_rfl) (by kernel_rfl) (by kernel_rfl) (by decide) (by kernel_rfl) (by kernel_rfl) rfl rfl (by decide) fun e0 d0 s l0 v0=>?_
   have j:Wk w0 s [ι (ε w) (Ax t) 56,ι (ε w + 1) (AX BM none 0) 53] [BF w0 b ns,Bh b w,HO e0 d0 [[102],[114,51]]] []:=(f.put 2 (by simp) v0 l0).pk [0,1] [0,1,2]
   refine AB Tr j [] fun o d=>?_
   refine AU [(0,ζ b),(4,ζ (ε w)),(6,ζ (ε w + 1)),(7,τ e0 [[102],[114,51]].length d0),(28,ζ b)] fun m0=>?_
   exact fin e0 d0 [[102],[114,51]] o m0 (by decide) (by decide) (fun nm hm=>by rw [e1]; show nm∈[102] :: cond (decide (3 < n)) [[114,51]] []; rw [c2]; exact hm) d
  refine AB Tr K7 [] fun o d=>?_
  refine AU [(0,ζ b),(4,ζ (ε w)),(6,ζ (ε w + 1)),(7,τ A5 [[102]].length c5),(28,ζ b)] fun m0=>?_
  exact fin A5 c5 [[102]] o m0 (by decide) (by decide) (fun nm hm=>by rw [e1]; show nm∈[102] :: cond (decide (3 < n)) [[114,51]] []; rw [c2]; exact hm) d
 refine AB VP K4 [] fun w5 K5=>?_
 refine AP K5 (args:=[]) (Gg _) fun w6 K6=>?_
 refine Ak Ei jj K6 [] fun w7 K7=>?_
 refine DN (DD (k:=.eql) (T:=56) (a:=ψ (Ax t)) (b:=ψ (Ax Cb)) (EL _ _ _ _ _ _ _ _ _)) ?_
 refine AB VO K7 [] fun w8 K8=>?_
 refine AG (Hc t Cb) (fun cm=>?_) (fun cm=>?_)
 ·have e2:=Il cm
  refine AB ji K8 [] fun w9 x=>?_
  refine BK x i 0 rfl (BR b ns 4 _ (x.tapeOk i 0 rfl) (by omega) (by omega)) BX.ok fun e z hq f=>?_
  obtain ⟨o1,a2,rfl,_,_⟩:=hq
  refine ⟨_,rfl,?_⟩
  refine AB VN f [] fun s j=>?_
  refine AG ((o1:Int) == 3) (fun _=>?_) (fun _=>?_)
  ·skip
   refine Ah jh [ι (ε w) (Ax t) 56,ι (ε w + 1) (AX BM none 0) 53,ι (ε s) [δ 20,δ 21] 3] j [] fun o d=>?_
   refine BK d i 0 rfl (JJ b ns (ε s) [20,21] 2 o (d.tapeOk i 0 rfl) (Nat.ne_of_gt (j.tapeOk i 0 rfl).lt) (by decide) (by decide) (d.ent 2 (by kernel_rfl))) (fun e w' ⟨_,_,_,h1,h2⟩=>⟨h1,h2⟩) fun e c0 hq p=>?_
   obtain ⟨op,hop,rfl,_,_⟩:=hq
   refine ⟨_,rfl,?_⟩
   refine AB jg p [] fun b0 m=>?_
   refine BK m i 0 rfl (BR b ns 3 _ (m.tapeOk i 0 rfl) (by omega) (by omega)) BX.ok fun e a0 hq y=>?_
   obtain ⟨b1,v1,rfl,_,_⟩:=hq
   refine ⟨_,rfl,?_⟩
   have g0:op=20∨op=21:=by simpa using hop
   refine Ah yE [ι (ε w) (Ax t) 56,ι (ε w + 1) (AX (.mk op 0 0 0 0 0 [103,114,111,115,115] (IntKind.i64.wrap (1 + (b1:Int))) 0 []) none 0) 53,ι (ε s) [δ 20,δ 21] 3] y [(1,0)] fun s0 g=>?_
   refine AK g (1,0) (ψ (AX (.mk op 0 0 0 0 0 [103,114,111,115,115] (IntKind.i64.wrap (1 + (b1:Int))) 0 []) none 0)) (.leaf ?_ rfl (g.out i hw))
   rw [IntWalk.i64_in _ (by omega)]
   exact .past h t [103,114,111,115,115] op _ (.inl ⟨e2,rfl⟩) g0 (by omega) (by omega)
  refine AB VM j [] fun o d=>?_
  refine AG (decide (2 < n)) (fun c2=>?_) (fun c2=>?_)
  ·skip
   refine CY Bp VL [ι (ε w) (Ax t) 56,ι (ε w + 1) (AX BM none 0) 53,ι (ε o) [η [114,50]] 9] d [] fun c0 p=>?_
   refine Cw p.H (p.ix 2) (p.at 2 rfl) [114,50] (Jj [114,50]) rfl (ε o) (p.ent 2 (by kernel_rfl)) (CL VL) (by kernel_rfl) (.tmp 49) (.tmp 50) 65 (by kernel_rfl) (by kernel_rfl) (by kernel_rfl) (by decide) (by kernel_rfl) (by kernel_rfl) rfl rfl (by decide) fun l1 d1 b0 g1 r1=>?_
   have m:Wk w0 b0 [ι (ε w) (Ax t) 56,ι (ε w + 1) (AX BM none 0) 53] [BF w0 b ns,Bh b w,HO l1 d1 [[114,50]]] []:=(p.put 2 (by simp) r1 g1).pk [0,1] [0,1,2]
   refine AB QR m [] fun a0 y=>?_
   refine AG (decide (4 < n)) (fun c3=>?_) (fun c3=>?_)
   ·skip
    refine CY Bp QQ [ι (ε w) (Ax t) 56,ι (ε w + 1) (AX BM none 0) 53,ι (ε a0) [η [97]] 9] y [] fun s0 g=>?_
    refine Cw g.H (g.ix 2) (g.at 2 rfl) [97] (Jj [97]) rfl (ε a0) (g.ent 2 (by kernel_rfl)) (CL QQ) (by kernel_rfl) (.tmp 54) (.tmp 55) 65 (by kernel_rfl) (by kernel_rfl) (by kernel_rfl) (by decide) (by kernel_rfl) (by kernel_rfl) rfl rfl (by decide) fun p0 i0 r0 k0 t0=>?_
    have j0:Wk w0 r0 [ι (ε w) (Ax t) 56,ι (ε w + 1) (AX BM none 0) 53] [BF w0 b ns,Bh b w,HO p0 i0 [[114,50],[97]]] []:=(g.put 2 (by simp) t0 k0).pk [0,1] [0,1,2]
    refine Ak Hh Gt j0 [] fun q0 v=>?_
    refine AU [(0,ζ b),(4,ζ (ε w)),(6,ζ (ε w + 1)),(7,τ p0 [[114,50],[97]].length i0),(84,ξ (decide (0 < ([[114,50],[97]].length:Int))))] fun z0=>?_
    refine GH (l:=[[114,50],[97]]) i hw h5 (fun nm hm=>?_) (fun q=>?_) (by decide) (fun _ _ h=>h) v
    ·rw [e2]
     show nm∈cond (decide (2 < n)) [[114,50]] []++cond (decide (4 < n)) [[97]] []
     rw [c2,c3]; exact hm
    rw [e2] at q
    cases q
   skip
   refine Ak Hh Gt y [] fun q0 v=>?_
   refine AU [(0,ζ b),(4,ζ (ε w)),(6,ζ (ε w + 1)),(7,τ l1 [[114,50]].length d1),(84,ξ (decide (0 < ([[114,50]].length:Int))))] fun z0=>?_
   refine GH (l:=[[114,50]]) i hw h5 (fun nm hm=>?_) (fun q=>?_) (by decide) (fun _ _ h=>h) v
   ·rw [e2]
    show nm∈cond (decide (2 < n)) [[114,50]] []++cond (decide (4 < n)) [[97]] []
    rw [c2,c3]; exact hm
   rw [e2] at q
   cases q
  refine AB QR d [] fun a0 y=>?_
  refine AG (decide (4 < n)) (fun c3=>?_) (fun c3=>?_)
  ·skip
   refine CY Bp QQ [ι (ε w) (Ax t) 56,ι (ε w + 1) (AX BM none 0) 53,ι (ε a0) [η [97]] 9] y [] fun s0 g=>?_
   refine Cw g.H (g.ix 2) (g.at 2 rfl) [97] (Jj [97]) rfl (ε a0) (g.ent 2 (by kernel_rfl)) (CL QQ) (by kernel_rfl) (.tmp 54) (.tmp 55) 65 (by kernel_rfl) (by kernel_rfl) (by kernel_rfl) (by decide) (by kernel_rfl) (by kernel_rfl) rfl rfl (by decide) fun p0 i0 r0 k0 t0=>?_
   have j0:Wk w0 r0 [ι (ε w) (Ax t) 56,ι (ε w + 1) (AX BM none 0) 53] [BF w0 b ns,Bh b w,HO p0 i0 [[97]]] []:=(g.put 2 (by simp) t0 k0).pk [0,1] [0,1,2]
   refine Ak Hh Gt j0 [] fun q0 v=>?_
   refine AU [(0,ζ b),(4,ζ (ε w)),(6,ζ (ε w + 1)),(7,τ p0 [[97]].length i0),(84,ξ (decide (0 < ([[97]].length:Int))))] fun z0=>?_
   refine GH (l:=[[97]]) i hw h5 (fun nm hm=>?_) (fun q=>?_) (by decide) (fun _ _ h=>h) v
   ·rw [e2]
    show nm∈cond (decide (2 < n)) [[114,50]] []++cond (decide (4 < n)) [[97]] []
    rw [c2,c3]; exact hm
   rw [e2] at q
   cases q
  skip
  refine Ak Hh Gt y [] fun q0 v=>?_
  refine AU [(0,ζ b),(4,ζ (ε w)),(6,ζ (ε w + 1)),(7,τ none ([]:List (List UInt8)).length 0),(84,ξ (decide (0 < (([]:List (List UInt8)).length:Int))))] fun z0=>?_
  refine GH (l:=([]:List (List UInt8))) i hw h5 (fun nm hm=>?_) (fun q=>?_) (by decide) (fun _ _ h=>h) v
  ·rw [e2]
   show nm∈cond (decide (2 < n)) [[114,50]] []++cond (decide (4 < n)) [[97]] []
   rw [c2,c3]; exact hm
  rw [e2] at q
  cases q
 refine AB VK K8 [] fun w5 K5=>?_
 refine AP K5 (args:=[]) (Ic _) fun w6 K6=>?_
 refine Ak Ei jf K6 [] fun w7 K7=>?_
 refine DN (DD (k:=.eql) (T:=56) (a:=ψ (Ax t)) (b:=ψ (Ax De)) (EL _ _ _ _ _ _ _ _ _)) ?_
 refine AB QP K7 [] fun w8 K8=>?_
 refine AG (Hc t De) (fun ch=>?_) (fun ch=>?_)
 ·have e3:=Il ch
  refine CY Bp VJ [ι (ε w) (Ax t) 56,ι (ε w + 1) (AX BM none 0) 53,ι (ε w8) [η [104]] 9] K8 [] fun w9 x=>?_
  refine Cw x.H (x.ix 2) (x.at 2 rfl) [104] (Jj [104]) rfl (ε w8) (x.ent 2 (by kernel_rfl)) (CL VJ) (by kernel_rfl) (.tmp 60) (.tmp 61) 65 (by kernel_rfl) (by kernel_rfl) (by kernel_rfl) (by decide) (by kernel_rfl) (by kernel_rfl) rfl rfl (by decide) fun A9 c9 z x0 b9=>?_
  have f:Wk w0 z [ι (ε w) (Ax t) 56,ι (ε w + 1) (AX BM none 0) 53] [BF w0 b ns,Bh b w,HO A9 c9 [[104]]] []:=(x.put 2 (by simp) b9 x0).pk [0,1] [0,1,2]
  refine AB je f [] fun s j=>?_
  refine BK j i 0 rfl (BR b ns 4 _ (j.tapeOk i 0 rfl) (by omega) (by omega)) BX.ok fun e o hq d=>?_
  obtain ⟨n1,x1,rfl,_,_⟩:=hq
  refine ⟨_,rfl,?_⟩
  refine AB jd d [] fun c0 p=>?_
  refine AG ((n1:Int) == 3) (fun _=>?_) (fun _=>?_)
  ·skip
   refine Ah jc [ι (ε w) (Ax t) 56,ι (ε w + 1) (AX BM none 0) 53,ι (ε c0) [δ 20,δ 21] 3] p [] fun b0 m=>?_
   refine BK m i 0 rfl (JJ b ns (ε c0) [20,21] 2 b0 (m.tapeOk i 0 rfl) (Nat.ne_of_gt (p.tapeOk i 0 rfl).lt) (by decide) (by decide) (m.ent 2 (by kernel_rfl))) (fun e w' ⟨_,_,_,h1,h2⟩=>⟨h1,h2⟩) fun e a0 hq y=>?_
   obtain ⟨op,hop,rfl,_,_⟩:=hq
   refine ⟨_,rfl,?_⟩
   refine AB jb y [] fun s0 g=>?_
   refine BK g i 0 rfl (BR b ns 3 _ (g.tapeOk i 0 rfl) (by omega) (by omega)) BX.ok fun e r0 hq j0=>?_
   obtain ⟨a1,u1,rfl,_,_⟩:=hq
   refine ⟨_,rfl,?_⟩
   have g0:op=20∨op=21:=by simpa using hop
   refine Ah yD [ι (ε w) (Ax t) 56,ι (ε w + 1) (AX (.mk op 0 0 0 0 0 [116,105,109,101] (IntKind.i64.wrap (1 + (a1:Int))) 0 []) none 0) 53,ι (ε c0) [δ 20,δ 21] 3] j0 [(1,0)] fun q0 v=>?_
   refine AK v (1,0) (ψ (AX (.mk op 0 0 0 0 0 [116,105,109,101] (IntKind.i64.wrap (1 + (a1:Int))) 0 []) none 0)) (.leaf ?_ rfl (v.out i hw))
   rw [IntWalk.i64_in _ (by omega)]
   exact .past h t [116,105,109,101] op _ (.inr ⟨e3,rfl⟩) g0 (by omega) (by omega)
  refine Ak Hh Gt p [] fun b0 m=>?_
  refine AU [(0,ζ b),(4,ζ (ε w)),(6,ζ (ε w + 1)),(7,τ A9 [[104]].length c9),(84,ξ (decide (0 < ([[104]].length:Int))))] fun k1=>?_
  refine GH (l:=[[104]]) i hw h5 (fun nm hm=>?_) (fun q=>?_) (by decide) (fun _ _ h=>h) m
  ·rw [e3]
   show nm∈[[104]]
   exact hm
  rw [e3] at q
  cases q
 refine AB VI K8 [] fun w5 K5=>?_
 refine AP K5 (args:=[]) (Gf _) fun w6 K6=>?_
 refine Ak Ei ja K6 [] fun w7 K7=>?_
 refine DN (DD (k:=.eql) (T:=56) (a:=ψ (Ax t)) (b:=ψ (Ax BU)) (EL _ _ _ _ _ _ _ _ _)) ?_
 refine AB QO K7 [] fun w8 K8=>?_
 refine AG (Hc t BU) (fun cr=>?_) (fun cr=>?_)
 ·have e4:=Il cr
  refine AB VH K8 [] fun w9 x=>?_
  refine AG (decide (1 < n)) (fun c2=>?_) (fun c2=>?_)
  ·skip
   refine CY Bp jZ [ι (ε w) (Ax t) 56,ι (ε w + 1) (AX BM none 0) 53,ι (ε w9) [η [114,49]] 9] x [] fun z f=>?_
   refine Cw f.H (f.ix 2) (f.at 2 rfl) [114,49] (Jj [114,49]) rfl (ε w9) (f.ent 2 (by kernel_rfl)) (CL jZ) (by kernel_rfl) (.tmp 78) (.tmp 79) 65 (by kernel_rfl) (by kernel_rfl) (by kernel_rfl) (by decide) (by kernel_rfl) (by kernel_rfl) rfl rfl (by decide) fun e0 d0 s l0 v0=>?_
   have j:Wk w0 s [ι (ε w) (Ax t) 56,ι (ε w + 1) (AX BM none 0) 53] [BF w0 b ns,Bh b w,HO e0 d0 [[114,49]]] []:=(f.put 2 (by simp) v0 l0).pk [0,1] [0,1,2]
   refine Ak Hh Gt j [] fun o d=>?_
   refine AU [(0,ζ b),(4,ζ (ε w)),(6,ζ (ε w + 1)),(7,τ e0 [[114,49]].length d0),(84,ξ (decide (0 < ([[114,49]].length:Int))))] fun m0=>?_
   refine GH (l:=[[114,49]]) i hw h5 (fun nm hm=>?_) (fun q=>?_) (by decide) (fun _ _ h=>h) d
   ·rw [e4]
    show nm∈cond (decide (1 < n)) [[114,49]] []
    rw [c2]; exact hm
   rw [e4] at q
   cases q
  skip
  refine Ak Hh Gt x [] fun o d=>?_
  refine AU [(0,ζ b),(4,ζ (ε w)),(6,ζ (ε w + 1)),(7,τ none ([]:List (List UInt8)).length 0),(84,ξ (decide (0 < (([]:List (List UInt8)).length:Int))))] fun m0=>?_
  refine GH (l:=([]:List (List UInt8))) i hw h5 (fun nm hm=>?_) (fun q=>?_) (by decide) (fun _ _ h=>h) d
  ·rw [e4]
   show nm∈cond (decide (1 < n)) [[114,49]] []
   rw [c2]; exact hm
  rw [e4] at q
  cases q
 have e5:=vq h5 ct cm ch cr
 refine CY Bp VG [ι (ε w) (Ax t) 56,ι (ε w + 1) (AX BM none 0) 53,ι (ε w8) [η [103]] 9] K8 [] fun w9 x=>?_
 refine Cw x.H (x.ix 2) (x.at 2 rfl) [103] (Jj [103]) rfl (ε w8) (x.ent 2 (by kernel_rfl)) (CL VG) (by kernel_rfl) (.tmp 9) (.tmp 10) 65 (by kernel_rfl) (by kernel_rfl) (by kernel_rfl) (by decide) (by kernel_rfl) (by kernel_rfl) rfl rfl (by decide) fun A9 c9 z x0 b9=>?_
 have f:Wk w0 z [ι (ε w) (Ax t) 56,ι (ε w + 1) (AX BM none 0) 53] [BF w0 b ns,Bh b w,HO A9 c9 [[103]]] []:=(x.put 2 (by simp) b9 x0).pk [0,1] [0,1,2]
 refine AB VF f [] fun s j=>?_
 refine AG (decide (4 < n)) (fun c2=>?_) (fun c2=>?_)
 ·skip
  refine CY Bp jY [ι (ε w) (Ax t) 56,ι (ε w + 1) (AX BM none 0) 53,ι (ε s) [η [114,52]] 9] j [] fun o d=>?_
  refine Cw d.H (d.ix 2) (d.at 2 rfl) [114,52] (Jj [114,52]) rfl (ε s) (d.ent 2 (by kernel_rfl)) (CL jY) (by kernel_rfl) (.tmp 14) (.tmp 15) 65 (by kernel_rfl) (by kernel_rfl) (by kernel_rfl) (by decide) (by kernel_rfl) (by kernel_rfl) rfl rfl (by decide) fun m1 f1 c0 i1 s1=>?_
  have p:Wk w0 c0 [ι (ε w) (Ax t) 56,ι (ε w + 1) (AX BM none 0) 53] [BF w0 b ns,Bh b w,HO m1 f1 [[103],[114,52]]] []:=(d.put 2 (by simp) s1 i1).pk [0,1] [0,1,2]
  refine Ak Hh Gt p [] fun b0 m=>?_
  refine AU [(0,ζ b),(4,ζ (ε w)),(6,ζ (ε w + 1)),(7,τ m1 [[103],[114,52]].length f1),(84,ξ (decide (0 < ([[103],[114,52]].length:Int))))] fun k1=>?_
  refine GH (l:=[[103],[114,52]]) i hw h5 (fun nm hm=>?_) (fun q=>?_) (by decide) (fun _ _ h=>h) m
  ·rw [e5]
   show nm∈[103] :: cond (decide (4 < n)) [[114,52]] []
   rw [c2]; exact hm
  rw [e5] at q
  cases q
 skip
 refine Ak Hh Gt j [] fun b0 m=>?_
 refine AU [(0,ζ b),(4,ζ (ε w)),(6,ζ (ε w + 1)),(7,τ A9 [[103]].length c9),(84,ξ (decide (0 < ([[103]].length:Int))))] fun k1=>?_
 refine GH (l:=[[103]]) i hw h5 (fun nm hm=>?_) (fun q=>?_) (by decide) (fun _ _ h=>h) m
 ·rw [e5]
  show nm∈[103] :: cond (decide (4 < n)) [[114,52]] []
  rw [c2]; exact hm
 rw [e5] at q
 cases q
end
end Go.Proofs.YtkjbdagicjbjjaaGreat

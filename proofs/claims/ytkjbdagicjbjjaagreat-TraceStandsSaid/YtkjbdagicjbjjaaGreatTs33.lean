/- Contracts of functions, part 33. -/
import Derived.Test.YtkjbdagicjbjjaaGreatTs32
import Derived.Test.YtkjbdagicjbjjaaGreatTs30
import Derived.Test.YtkjbdagicjbjjaaGreatTs19
set_option linter.all false
namespace Go.Proofs.YtkjbdagicjbjjaaGreat
noncomputable section
open Go.RowKit
set_option maxRecDepth 100000
set_option maxHeartbeats 1000000
def vM (m:List Nat) (l:Array Bool):Array Bool:=m.foldl (fun b i=>b.setIfInBounds i true) l
theorem ABe {γ:Type} {P:Program} {f:FuncId} {R:Ending→World→Prop} {n:Nat} {todo:List Item} {E:Nat→Value} {w0 w:World} {M:List A7} {L T:List Th} (K:Wk w0 w M L T) {mem:List A7} (m:List Nat) (hints:List (Nat×Nat×Nat)) (specs:List Sp) (i:Nat) (m2:List Nat) {g:FuncId} {xs:List Operand} {args:List Value} (a:γ→Value) (L':γ→List Th)
  (o:∀ e∈mem,e.good w) (l:∀ b∈specs,FG P n (Below (ε w) w) (AR todo) b)
  (h:∀ u,Wk w0 u M L T→Calls P g args.toArray u fun e w'=>∃ x,e=.returned (a x)∧Wk w0 w' M (L' x) T)
  (k:∀ x w',Wk w0 w' M (L' x) T→At P f R (AM todo) (Fr n (C5 P n (AR todo) [] [] [] m2 (Aw (C5 P n (AR todo) mem hints specs m E) ((AR todo).getD i default).dst (a x)))) w')
  (hd:(FL todo).isSome=true:=by kernel_rfl) (hmo:P.follows .mixedOrders=true:=by kernel_rfl)
  (hok:(Ev .any (AR todo) (DU (AR todo) m) (Array.replicate (AR todo).size false) n (EO P n (AR todo) mem hints specs m E) && HM (AR todo) (EO P n (AR todo) mem hints specs m E),m.all (FB P n (AR todo) mem hints specs m E),Nat.beq (m.length + (m2.length + 1)) (AR todo).size)=(true,true,true):=by kernel_rfl)
  (hp:∀ X,Jc P n (AR todo) mem hints specs m E X=Hk P n (AR todo) mem hints specs m E:=by intro _; kernel_rfl)
  (hc:(Region.ready .any (AR todo) (vM m (Array.replicate (AR todo).size false)),Nat.blt i (AR todo).size,((AR todo).getD i default).guard,Region.ready .any (AR todo) (vM m2 ((vM m (Array.replicate (AR todo).size false)).setIfInBounds i true)),xs.map (A8 n (C5 P n (AR todo) mem hints specs m E)),DX P g,N5 ((AR todo).getD i default).op)=([i],true,none,[],args,true,some (g,xs)):=by kernel_rfl)
  (hok2:∀ x,(Ev .any (AR todo) (DU (AR todo) m2) ((vM m (Array.replicate (AR todo).size false)).setIfInBounds i true) n (EO P n (AR todo) [] [] [] m2 (Aw (C5 P n (AR todo) mem hints specs m E) ((AR todo).getD i default).dst (a x))) && HM (AR todo) (EO P n (AR todo) [] [] [] m2 (Aw (C5 P n (AR todo) mem hints specs m E) ((AR todo).getD i default).dst (a x))),m2.all (FB P n (AR todo) [] [] [] m2 (Aw (C5 P n (AR todo) mem hints specs m E) ((AR todo).getD i default).dst (a x))))=(true,true):=by intro _; kernel_rfl)
  (hp2:∀ x X,Jc P n (AR todo) [] [] [] m2 (Aw (C5 P n (AR todo) mem hints specs m E) ((AR todo).getD i default).dst (a x)) X=Hk P n (AR todo) [] [] [] m2 (Aw (C5 P n (AR todo) mem hints specs m E) ((AR todo).getD i default).dst (a x)):=by intro _ _; kernel_rfl):At P f R todo (Fr n E) w:=by
 simp only [Prod.mk.injEq] at hc
 obtain ⟨y,c,v,t,s,q,p⟩:=hc
 obtain ⟨ats,hop⟩:=N4 p
 refine X9 K m hints specs (m2.length + 1) hd hmo o l hok hp fun u z=>?_
 rw [Nat.blt_eq] at c
 refine YB (fuel:=m2.length) ((AR todo).getD i default) g xs args y (by simp [Array.getD,c]) v hop s q ((h u z).mono fun e w' j=>?_)
 obtain ⟨x,rfl,K2⟩:=j
 have h2:=hok2 x
 simp only [Prod.mk.injEq] at h2
 exact ⟨a x,rfl,SW (r:=0) K2 (Below.refl _ _) m2 [] [] (fun e he=>by cases he) (fun b hs=>by cases hs) h2.1 h2.2 (hp2 x) fun d K3=>FN (hr:=t) ⟨rfl,(k x d K3).mid⟩⟩
def mQ:Op→Bool
 | .insert _ _ _ _=>true
 | _=>false
section
variable {α β:Type} [DecidableEq α] (S:Bc α β) {b:Nat} {w:World} {L:List Th} {ρ:Operand→Value}
theorem f5 (H:Aj b w L) (i:Nat) {g:Nat} {m:List (α×β)} (hi:L[i]?=some (S.th g m)) (a:α) (v:β) (ha:S.ka a) (hv:S.ea v) (o:Oper) {t:TypeId} {x y z:Operand} (ho:o.op=.insert t x y z) (ht:t=S.t)
  (hx:ρ x=.map (some g)) (e:ρ y=S.kv a) (hz:ρ z=S.ev v) (hm:m.length < 100000000000):∃ w',(execOp ρ o).run Tryz.prog w=.ok .skip w'∧Aj b w' (L.set i (S.th g ((a,v) :: m)))∧Below b w w':=by
 obtain ⟨d,op,ty,c,h,f⟩:=o
 subst ho
 exact Jz S H i hi a v ha hv ⟨d,.mapUpdate t x y z,ty,c,h,f⟩ rfl ht hx e hz hm
end
def HP:List Nat→List (Nat×Bool)→List Nat→List (Nat×Bool)×List Nat
 | [],m,q=>(m,q)
 | j :: r,m,q=>cond (!((AH m j).getD false)) (HP r ((j,true) :: m) (q++[j])) (HP r m q)
def IM (nd:Nat→List Nat×Int):Nat→List (Nat×Bool)→List Nat→List (Nat×Bool)×Int
 | 0,m,_=>(m,0)
 | _ + 1,m,[]=>(m,0)
 | h + 1,m,i :: q=>cond (!((nd i).2 == 0)) ([],(nd i).2) (IM nd h (HP (nd i).1 m q).1 (HP (nd i).1 m q).2)
def Dn (n:List UInt8) (ds:List Df) (day:Int) (i:Nat):List (Nat×Bool)×Int:=IM (DY n ds day) (ds.length + 1) [(i,true)] [i]
theorem PY:∀ (n:Nat) (l:List Nat),l.Nodup→(∀ x∈l,x < n)→l.length≤n
 | 0,[],_,_=>Nat.le_refl _
 | 0,x :: l,_,h=>absurd (h x (by simp)) (Nat.not_lt_zero _)
 | n + 1,l,hd,h=>by
  by_cases hn:n∈l
  ·have a:=PY n (l.erase n) (hd.erase n) (fun x hx=>by
    have h2:=(hd.mem_erase_iff).1 hx
    have:=h x h2.2
    have:=h2.1
    omega)
   rw [List.length_erase_of_mem hn] at a
   omega
  have:=PY n l hd (fun x hx=>by
   have a:=h x hx
   have h2:x≠n:=fun e=>hn (e ▸ hx)
   omega)
  omega
theorem RG {β:Type}:∀ {m:List (Nat×β)} {j:Nat},AH m j=none→j∉m.map (·.1)
 | [],_,_=>by simp
 | p :: m,j,h=>by
  rw [AH] at h
  split at h
  ·cases h
  rename_i hp
  rw [List.map_cons,List.mem_cons]
  rintro (hj | hj)
  ·exact hp hj.symm
  exact RG h hj
def LW (n:Nat) (m:List (Nat×Bool)):Prop:=(m.map (·.1)).Nodup∧∀ p∈m,p.1 < n∧p.2=true
theorem LW.le {n:Nat} {m:List (Nat×Bool)} (h:LW n m):m.length≤n:=by
 have:=PY n (m.map (·.1)) h.1 (fun x hx=>by
  obtain ⟨p,a,rfl⟩:=List.mem_map.1 hx
  exact (h.2 p a).1)
 rwa [List.length_map] at this
theorem LW.cons {n:Nat} {m:List (Nat×Bool)} (h:LW n m) {j:Nat} (b:j < n) (hl:(!((AH m j).getD false))=true):LW n ((j,true) :: m):=by
 have hn:AH m j=none:=by
  cases hx:AH m j with
  | none=>rfl
  | some v=>
   have:=(h.2 _ (EM hx)).2
   rw [hx] at hl
   simp only at this
   rw [this] at hl
   cases hl
 refine ⟨?_,fun p a=>?_⟩
 ·rw [List.map_cons,List.nodup_cons]
  exact ⟨RG hn,h.1⟩
 rcases List.mem_cons.1 a with rfl | a
 ·exact ⟨b,rfl⟩
 exact h.2 p a
theorem oD {n:List UInt8} {ds:List Df} {day:Int} {i:Nat} (hi:i < ds.length) (hn:∀ d∈ds,nE d.body≤1000000):LA ds (DY n ds day i).1:=by
 unfold DY
 cases !(C7 n ds day == 0)
 ·cases (cond (!(F9 (Aa ds day) (i:Int))) (true) (!(Ac (κ ds i))))
  ·exact Sz Ed hi hn
  exact ⟨fun j a=>(by cases a),Nat.zero_le _⟩
 exact ⟨fun j a=>(by cases a),Nat.zero_le _⟩
attribute [local irreducible] BD BP AC AD AF Ar AZ AM Aw Bk C6 BV EE C5 BO At Fr
noncomputable def SM:Code:=Tryz.f24.body.getD .skip
def T7:=AA (An ES 90 ([.code SM])) ([.code SM])
def T6:=AA (An mQ 90 (AC T7)) (AC T7)
def dS:=Ω T6
def dR:=ν (Ar dS)
def tT:=Al 4 (AD dR)
def T5:=AI tT
def ADe:=Ξ T5
def dQ:=AA (An Jb 90 (AF T5)) (AF T5)
def T4:=Ω dQ
def dP:=ν (Ar T4)
def V6:=AA (An Ae 90 (AD dP)) (AD dP)
def V5:=AA (An Cv 90 (AC (AC V6))) (AC (AC V6))
def V4:=Ω V5
def Qj:=AA (An Eh 90 (AD V4)) (AD V4)
def ky:=AA (An Bp 90 (AC Qj)) (AC Qj)
def yy:=Ψ dR
theorem Yl (f:List UInt8) (dA:Option Addr) (ds:List Df) (dc:Nat) (day:Int) (i:Nat) (w:World) (a1:rowsDf w dA ds) (k1:ds.length≤1000000000) (hi:i < ds.length) (hs:f.length≤4294967296) (ht:∀ d∈ds,Fc d) (z0:∀ d∈ds,Dm d.body) (hn:∀ d∈ds,nE d.body≤1000000) :
  Calls Tryz.prog 24 ([ψ [η f,τ dA ds.length dc],δ day,δ (i:Int)]:List Value).toArray w fun e w'=>∃ rb,e=.returned (.tuple #[.map rb,δ (Dn f ds day i).2])∧Below w.heap.size w w'∧((Dn f ds day i).2=0→∃ b,rb=some b)∧Aj w.heap.size w' [EJ.thO rb (Dn f ds day i).1]:=by
 refine AS (fn:=Tryz.f24) (c:=SM) (n:=54) ?_
 have K0:=Wk.start w
 refine CY ES T7 [ι w.heap.size [η f,τ dA ds.length dc] 27] K0 [] fun w1 K1=>?_
 refine FV EJ K1.H (CL T7) (by kernel_rfl) (t:=76) (by kernel_rfl) fun w2 Z2 Hn b2=>?_
 have K2:=K1.add b2 Hn
 generalize hgm:w1.heap.size=gm at K2 ⊢
 clear Hn b2 Z2 K1 hgm
 refine Ak mQ T6 K2 [] fun w3 s=>?_
 obtain ⟨w4,m0,H4,b4⟩:=f5 EJ (ρ:=A8 54 _) s.H (s.ix 0) (s.at 0 rfl) i true (by show i≤_; omega) trivial (CL T6) (t:=76) (x:=.tmp 14) (y:=.tmp 15) (z:=.const (ξ true)) (by kernel_rfl) rfl (by kernel_rfl) (by kernel_rfl) (by kernel_rfl) (by decide)
 refine TB (CL T6) (by kernel_rfl) m0 ?_
 have K4:=s.put 0 (by simp) b4 H4
 refine Ah dS [ι w.heap.size [η f,τ dA ds.length dc] 27,ι w4.heap.size [δ (i:Int)] 3] K4 [] fun w5 K5=>?_
 have v:=K5.entRows (n:=1) 1 (fun e r=>r=Fw e) [i] [Fw i] ⟨rfl,trivial⟩ rfl rfl (by simp) rfl
 have K7:=v.put 1 (by simp) (Below.refl _ _) (H2.of v.H (v.ix 1) (v.at 1 rfl) (by simp))
 have b1:Dn f ds day i=IM (DY f ds day) (ds.length + 1) [(i,true)] [i]:=rfl
 have d0:LW ds.length [(i,true)]:=⟨by simp,fun p hp=>by rw [List.mem_singleton.1 hp]; exact ⟨hi,rfl⟩⟩
 refine AU [(1,δ day),(3,ζ (w.heap.size)),(8,.map (some gm)),(9,χ w4.heap.size [i].length 1)] fun E7=>?_
 refine qS (by kernel_rfl) (fun h E wx=>∃ (ml:List (Nat×Bool)) (q:List Nat) (qA:Option Addr) (qc:Nat) (E0:Nat→Value),E=BE E0 [(1,δ day),(3,ζ (w.heap.size)),(8,.map (some gm)),(9,τ qA q.length qc)]∧Dn f ds day i=IM (DY f ds day) h ml q∧LW ds.length ml∧(∀ j∈q,j < ds.length)∧q.length≤ml.length∧q.length + (ds.length - ml.length) < h∧Wk w wx [ι w.heap.size [η f,τ dA ds.length dc] 27] [EJ.th gm ml,H2 qA qc q] []) (ds.length + 1) ⟨[(i,true)],[i],θ w4.heap.size,1,E7,rfl,b1,d0,fun j hj=>by rw [List.mem_singleton.1 hj]; exact hi,Nat.le_refl _,by simp only [List.length_singleton]; omega,K7.pk [0] [0,1]⟩ ?_
 clear K2 s K4 K5 v K7 H4 m0 b4 b1 d0
 rintro h E wx ⟨ml,q,qA,qc,E0,rfl,l,hok,hq,b0,hh,K1⟩ i0
 have x0:=hok.le
 refine AB dR K1 [] fun w2 K2=>?_
 obtain ⟨h,rfl⟩:∃ k,h=k + 1:=⟨h - 1,by omega⟩
 refine AG (decide (0 < (q.length:Int))) (fun c1=>?_) (fun c1=>?_)
 ·obtain ⟨x,q,rfl⟩:∃ x q',q=x :: q':=by
   cases q with
   | nil=>exact absurd (of_decide_eq_true c1) (by decide)
   | cons x q=>exact ⟨x,q,rfl⟩
  rw [List.length_cons] at b0 hh
  rw [IM] at l
  have hx:x < ds.length:=hq x (by simp)
  have s0:=oD (n:=f) (day:=day) hx hn
  refine As 4 tT K2 [] fun w3 s=>?_
  obtain ⟨gq,fq,rfl,m1,p0⟩:=(H2.rows s.H (s.ix 1) (s.at 1 rfl)).all (by simp)
  have q0:=p0 0 x rfl
  refine ABe (γ:=Option Addr×Nat) s (mem:=[ι w.heap.size [η f,τ dA ds.length dc] 27,⟨gq,fq + 0 * 1,[δ (x:Int)],3,false⟩]) [0,1,2,3,4] [(0,0,0),(4,1,0)] [⟨3,[(25,τ (some ⟨gq,fq,none⟩) (x :: q).length qc)],.pointer (some ⟨gq,fq + 0 * 1,none⟩),true⟩] 5 [6,7,8,9,10] (g:=38) (xs:=[.tmp 23,.tmp 24,.tmp 27]) (args:=[ψ [η f,τ dA ds.length dc],δ day,δ (x:Int)]) (fun y=>.tuple #[τ y.1 (DY f ds day x).1.length y.2,δ (DY f ds day x).2]) (fun y=>[EJ.th gm ml,H2 (some ⟨gq,fq,none⟩) qc (x :: q)]++[BS y.1 y.2 (DY f ds day x).1]) (fun e he=>?_) (fun sp f1=>?_) (fun u Ku=>(oC f dA ds dc day x u (a1.below Ku.B) (by omega) hx hs ht z0 hn).mono fun e w' hh=>?_) fun y w4 K4=>?_
  ·simp only [List.mem_cons,List.not_mem_nil,or_false] at he
   rcases he with rfl | rfl
   ·exact s.ent 0 rfl
   exact ⟨m1,q0⟩
  ·rw [List.mem_singleton.1 f1]
   exact BQ fun _ E u _=>CE (sz:=1) (k:=0) (len:=(x :: q).length) (cap:=qc) 22 (.tmp 25) (.const (δ 0)) (Nat.succ_pos _) Tryz.underlying22
  ·obtain ⟨rA,rc,rfl,b,Hn⟩:=hh
   exact ⟨(rA,rc),rfl,Ku.join b Hn⟩
  obtain ⟨nA,nc⟩:=y
  refine AB T5 K4 [] fun w5 K5=>?_
  refine AG (!((DY f ds day x).2 == 0)) (fun c2=>?_) (fun c2=>?_) <;> rw [c2] at l
  ·replace l:Dn f ds day i=([],(DY f ds day x).2):=l
   refine AB ADe K5 [] fun w6 v=>?_
   have h1:(DY f ds day x).2≠0:=by simpa using c2
   refine AK v (0,0) (.tuple #[.map none,δ (DY f ds day x).2]) ⟨none,by rw [l],v.B,fun h0=>absurd (by rw [l] at h0; exact h0) h1,?_⟩
   rw [l]
   exact (v.own0 (L':=[]) [] rfl (by decide)).add (EJ.thO none []) rfl (fun _ h=>h)
  replace l:Dn f ds day i=IM (DY f ds day) h (HP (DY f ds day x).1 ml q).1 (HP (DY f ds day x).1 ml q).2:=l
  generalize (DY f ds day x)=nd at l s0 K5 ⊢
  obtain ⟨ns,ne⟩:=nd
  obtain ⟨g0,v0⟩:=s0
  replace g0:∀ j∈ns,j < ds.length:=g0
  replace v0:ns.length≤1000000:=v0
  replace l:Dn f ds day i=IM (DY f ds day) h (HP ns ml q).1 (HP ns ml q).2:=l
  replace K5:Wk w w5 [ι w.heap.size [η f,τ dA ds.length dc] 27] [EJ.th gm ml,H2 (some ⟨gq,fq,none⟩) qc (x :: q),BS nA nc ns] []:=K5
  refine Ak Jb dQ K5 [] fun w6 v=>?_
  refine DN (S6 (o:=CL dQ) (sz:=1) (len:=(x :: q).length) (cap:=qc) (a:=some ⟨gq,fq,none⟩) (x:=.tmp 34) (by kernel_rfl) Tryz.underlying22 (by kernel_rfl) (by kernel_rfl) (Nat.succ_le_succ (Nat.zero_le _)) (by kernel_rfl)) ?_
  have K7:=v.put 1 (by simp) (Below.refl _ _) (H2.cut v.H (v.ix 1) (v.at 1 rfl))
  refine AB T4 K7 [] fun w8 K8=>?_
  have g1:=(K8.H.rowsNat (K8.ix 2) (K8.at 2 rfl))
  have r0:∀ j∈q,j < ds.length:=fun j hj=>hq j (by simp [hj])
  refine AU [(1,δ day),(3,ζ (w.heap.size)),(8,.map (some gm)),(9,τ (if qc=1 then some ⟨gq,fq,none⟩ else (some (⟨gq,fq,none⟩:Addr)).map (·.add (1 * 1))) q.length (qc - 1)),(36,τ nA ns.length nc),(37,δ (ns.length:Int)),(38,δ ((0:Nat):Int))] fun E8=>?_
  refine Bo (by kernel_rfl) (fun E wx=>∃ (j:Nat) (ml':List (Nat×Bool)) (q':List Nat) (qA:Option Addr) (qc:Nat) (E0:Nat→Value),j≤ns.length∧E=BE E0 [(1,δ day),(3,ζ (w.heap.size)),(8,.map (some gm)),(9,τ qA q'.length qc),(36,τ nA ns.length nc),(37,δ (ns.length:Int)),(38,δ (j:Int))]∧Dn f ds day i=IM (DY f ds day) h (HP (ns.drop j) ml' q').1 (HP (ns.drop j) ml' q').2∧LW ds.length ml'∧(∀ j∈q',j < ds.length)∧q'.length≤ml'.length∧q'.length + (ds.length - ml'.length) < h∧Wk w wx [ι w.heap.size [η f,τ dA ds.length dc] 27] [EJ.th gm ml',H2 qA qc q',BS nA nc ns] []) (fun E _=>ns.length - AL (E 38)) ⟨0,ml,q,_,_,E8,Nat.zero_le _,rfl,l,hok,r0,by omega,by omega,K8⟩ ?_
  clear K2 s K4 K5 v K7 K8 g1 l hok x0 hq r0 b0 hh p0 q0 c1 c2
  rintro E wx ⟨j,ml,q,qA,qc,E0,hj,rfl,l,hok,hq,b0,hh,K1⟩ a0
  have x0:=hok.le
  refine AB dP K1 [] fun w2 K2=>?_
  refine AG (decide ((j:Int) < (ns.length:Int))) (fun c1=>?_) (fun c1=>?_)
  ·have c0:j < ns.length:=by have:=of_decide_eq_true c1; omega
   obtain ⟨y,hy⟩:∃ y,ns[j]?=some y:=⟨_,List.getElem?_eq_getElem c0⟩
   have l0:y < ds.length:=g0 y (List.mem_of_getElem? hy)
   have n1:ns.drop j=y :: ns.drop (j + 1):=by
    have he:ns[j]=y:=(List.getElem?_eq_some_iff.1 hy).2
    rw [← List.getElem_cons_drop c0,he]
   rw [n1,HP] at l
   obtain ⟨gn,fn,rfl,q1,i1⟩:=(K2.H.rowsNat (K2.ix 2) (K2.at 2 rfl)).all (by omega)
   have p1:=i1 j _ hy
   have Kn:=K2
   refine Ak Ae V6 K2 [] fun w3 s=>?_
   obtain ⟨g3,f3,h3,o1,t0⟩:=(s.H.rowsNat (s.ix 2) (s.at 2 rfl)).all (by omega)
   obtain ⟨rfl,rfl⟩:gn=g3∧fn=f3:=by injection h3 with h3; injection h3 with h3 h4; exact ⟨h3,h4⟩
   refine Ay (g:=gn) (off:=fn) (cap:=nc) (sz:=1) (k:=j) (len:=ns.length) (some 40) c0 Tryz.underlying22 ?_
   refine Dz 3 gn (fn + j * 1) (δ (y:Int)) (some 41) (by simpa using t0 j _ hy 0 _ rfl) ?_
   refine Ak Cv V5 s [] fun w4 K4=>?_
   refine DN (F7 EJ (o:=CL V5) (b:=gm) (m:=ml) (x:=.tmp 42) (y:=.tmp 43) (by kernel_rfl) rfl (by kernel_rfl) y (by kernel_rfl) (by show y≤_; omega) (K4.H.all (K4.ix 0) _ (K4.at 0 rfl))) ?_
   refine AB V4 K4 [] fun w5 K5=>?_
   refine AG (!((AH ml y).getD false)) (fun c2=>?_) (fun c2=>?_) <;> rw [c2] at l
   ·have e0:=hok.cons l0 c2
    have w0:=e0.le
    rw [List.length_cons] at w0
    refine Ak Eh Qj K5 [] fun w6 v=>?_
    refine GC EJ v.H (v.ix 0) (v.at 0 rfl) y true (by show y≤_; omega) trivial (CL Qj) (by kernel_rfl) (t:=76) (x:=.tmp 46) (y:=.tmp 47) (z:=.const (ξ true)) (by kernel_rfl) rfl (by kernel_rfl) (by kernel_rfl) (by kernel_rfl) (by omega) fun w7 Hn b7=>?_
    have K7:=v.put 0 (by simp) b7 Hn
    refine CY Bp ky [ι w.heap.size [η f,τ dA ds.length dc] 27,ι w7.heap.size [δ (y:Int)] 3] K7 [] fun w8 K8=>?_
    obtain ⟨A',c',w9,e1,H9,b9⟩:=l7 (k:=54) (E:=_) K8.H (K8.ix 1) (K8.at 1 rfl) y w7.heap.size (K8.ent 1 rfl) (CL ky) (.tmp 48) (.tmp 50) (by kernel_rfl) (by kernel_rfl) (by kernel_rfl) (by omega)
    refine DN e1 ?_
    have K9:=K8.put 1 (by simp) b9 H9
    refine AB (AZ T4) K9 [] fun d1 j0=>?_
    refine AU [(1,δ day),(3,ζ (w.heap.size)),(8,.map (some gm)),(9,τ A' (q++[y]).length c'),(36,τ (some ⟨gn,fn,none⟩) ns.length nc),(37,δ (ns.length:Int)),(38,δ (IntKind.i64.wrap ((j:Int) + 1)))] fun k0=>?_
    rw [Bl j (by omega)]
    refine a0 _ _ ⟨j + 1,(y,true) :: ml,q++[y],A',c',k0,c0,rfl,l,e0,fun z hz=>?_,by rw [List.length_append,List.length_singleton,List.length_cons]; omega,by rw [List.length_append,List.length_singleton,List.length_cons]; omega,j0.pk [0] [0,1,2]⟩ ?_
    ·rcases List.mem_append.1 hz with hz | hz
     ·exact hq z hz
     rw [List.mem_singleton.1 hz]; exact l0
    show ns.length - AL (δ ((j + 1:Nat):Int)) < ns.length - AL (δ (j:Int))
    simp only [AL]
    omega
   refine AB (AZ T4) K5 [] fun d1 j0=>?_
   refine AU [(1,δ day),(3,ζ (w.heap.size)),(8,.map (some gm)),(9,τ qA q.length qc),(36,τ (some ⟨gn,fn,none⟩) ns.length nc),(37,δ (ns.length:Int)),(38,δ (IntKind.i64.wrap ((j:Int) + 1)))] fun k0=>?_
   rw [Bl j (by omega)]
   refine a0 _ _ ⟨j + 1,ml,q,qA,qc,k0,c0,rfl,l,hok,hq,b0,hh,j0⟩ ?_
   show ns.length - AL (δ ((j + 1:Nat):Int)) < ns.length - AL (δ (j:Int))
   simp only [AL]
   omega
  have l1:j=ns.length:=by have:=of_decide_eq_false c1; omega
  rw [l1,List.drop_length,HP] at l
  refine AB (AZ dS) K2 [] fun w3 s=>?_
  refine AU [(1,δ day),(3,ζ (w.heap.size)),(8,.map (some gm)),(9,τ qA q.length qc)] fun E3=>?_
  exact i0 h _ _ (Nat.lt_succ_self h) ⟨ml,q,qA,qc,E3,rfl,l,hok,hq,b0,hh,s.pk [0] [0,1]⟩
 obtain rfl:q=[]:=by
  cases q with
  | nil=>rfl
  | cons x q=>exact absurd c1 (by simp)
 rw [IM] at l
 refine AB yy K2 [] fun w3 s=>?_
 refine AK s (0,0) (.tuple #[.map (some gm),δ 0]) ⟨some gm,by rw [l],s.B,fun _=>⟨gm,rfl⟩,?_⟩
 rw [l]
 exact s.own0 (L':=[EJ.th gm ml]) [0] rfl (by decide)
end
end Go.Proofs.YtkjbdagicjbjjaaGreat

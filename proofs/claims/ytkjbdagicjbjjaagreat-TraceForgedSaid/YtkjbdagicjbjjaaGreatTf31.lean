/-
  Part 31 of a proof: contracts of functions.
-/
import Derived.Test.YtkjbdagicjbjjaaGreatTf25
import Derived.Test.YtkjbdagicjbjjaaGreatTf28
import Derived.Test.YtkjbdagicjbjjaaGreatTf30
set_option linter.all false
namespace Go.Proofs.YtkjbdagicjbjjaaGreat
noncomputable section
open Go.RowKit
set_option maxRecDepth 100000
set_option maxHeartbeats 1000000
def sf (m:List Nat) (l:Array Bool):Array Bool:=m.foldl (fun b i=>b.setIfInBounds i true) l
theorem yx {γ:Type} {P:Program} {f:FuncId} {R:Ending→World→Prop} {n:Nat} {todo:List Item} {E:Nat→Value} {w0 w:World} {M:List Az} {L T:List Th} (K:Wk w0 w M L T) {mem:List Az} (m:List Nat) (hints:List (Nat×Nat×Nat)) (specs:List Sp) (i:Nat) (m2:List Nat) {g:FuncId} {xs:List Operand} {args:List Value} (a:γ→Value) (L':γ→List Th)
  (o:∀ e∈mem,e.good w) (l:∀ b∈specs,Eg P n (Below w.heap.size w) (AS todo) b)
  (h:∀ u,Wk w0 u M L T→Calls P g args.toArray u fun e w'=>∃ x,e=.returned (a x)∧Wk w0 w' M (L' x) T)
  (k:∀ x w',Wk w0 w' M (L' x) T→At P f R (AL todo) (Fr n (Cm P n (AS todo) [] [] [] m2 (Aq (Cm P n (AS todo) mem hints specs m E) ((AS todo).getD i default).dst (a x)))) w')
  (hd:(Ek todo).isSome=true:=by kernel_rfl) (hmo:P.follows .mixedOrders=true:=by kernel_rfl)
  (hok:(EZ .any (AS todo) (DC (AS todo) m) (Array.replicate (AS todo).size false) n (D7 P n (AS todo) mem hints specs m E) && Gc (AS todo) (D7 P n (AS todo) mem hints specs m E),m.all (Ed P n (AS todo) mem hints specs m E),Nat.beq (m.length + (m2.length + 1)) (AS todo).size)=(true,true,true):=by kernel_rfl)
  (hp:∀ X,I3 P n (AS todo) mem hints specs m E X=Gv P n (AS todo) mem hints specs m E:=by intro _; kernel_rfl)
  (hc:(Region.ready .any (AS todo) (sf m (Array.replicate (AS todo).size false)),Nat.blt i (AS todo).size,((AS todo).getD i default).guard,Region.ready .any (AS todo) (sf m2 ((sf m (Array.replicate (AS todo).size false)).setIfInBounds i true)),xs.map (Ax n (Cm P n (AS todo) mem hints specs m E)),DG P g,M0 ((AS todo).getD i default).op)=([i],true,none,[],args,true,some (g,xs)):=by kernel_rfl)
  (hok2:∀ x,(EZ .any (AS todo) (DC (AS todo) m2) ((sf m (Array.replicate (AS todo).size false)).setIfInBounds i true) n (D7 P n (AS todo) [] [] [] m2 (Aq (Cm P n (AS todo) mem hints specs m E) ((AS todo).getD i default).dst (a x))) && Gc (AS todo) (D7 P n (AS todo) [] [] [] m2 (Aq (Cm P n (AS todo) mem hints specs m E) ((AS todo).getD i default).dst (a x))),m2.all (Ed P n (AS todo) [] [] [] m2 (Aq (Cm P n (AS todo) mem hints specs m E) ((AS todo).getD i default).dst (a x))))=(true,true):=by intro _; kernel_rfl)
  (hp2:∀ x X,I3 P n (AS todo) [] [] [] m2 (Aq (Cm P n (AS todo) mem hints specs m E) ((AS todo).getD i default).dst (a x)) X=Gv P n (AS todo) [] [] [] m2 (Aq (Cm P n (AS todo) mem hints specs m E) ((AS todo).getD i default).dst (a x)):=by intro _ _; kernel_rfl):At P f R todo (Fr n E) w:=by
 simp only [Prod.mk.injEq] at hc
 obtain ⟨y,c,v,t,s,q,p⟩:=hc
 obtain ⟨ats,hop⟩:=Mz p
 refine WW K m hints specs (m2.length + 1) hd hmo o l hok hp fun u z=>?_
 rw [Nat.blt_eq] at c
 refine WY (fuel:=m2.length) ((AS todo).getD i default) g xs args y (by simp [Array.getD,c]) v hop s q ((h u z).mono fun e w' j=>?_)
 obtain ⟨x,rfl,K2⟩:=j
 have h2:=hok2 x
 simp only [Prod.mk.injEq] at h2
 exact ⟨a x,rfl,RA (r:=0) K2 (Below.refl _ _) m2 [] [] (fun e he=>by cases he) (fun b hs=>by cases hs) h2.1 h2.2 (hp2 x) fun d K3=>Em (hr:=t) ⟨rfl,(k x d K3).mid⟩⟩
def j4:Op→Bool
 | .insert _ _ _ _=>true
 | _=>false
section
variable {α β:Type} [DecidableEq α] (S:BT α β) {b:Nat} {w:World} {L:List Th} {ρ:Operand→Value}
theorem db (H:Ac b w L) (i:Nat) {g:Nat} {m:List (α×β)} (hi:L[i]?=some (S.th g m)) (a:α) (v:β) (ha:S.ka a) (hv:S.ea v) (o:Oper) {t:TypeId} {x y z:Operand} (ho:o.op=.insert t x y z) (ht:t=S.t)
  (hx:ρ x=.map (some g)) (e:ρ y=S.kv a) (hz:ρ z=S.ev v) (hm:m.length < 100000000000):∃ w',(execOp ρ o).run Tryz.prog w=.ok .skip w'∧Ac b w' (L.set i (S.th g ((a,v) :: m)))∧Below b w w':=by
 obtain ⟨d,op,ty,c,h,f⟩:=o
 subst ho
 exact JS S H i hi a v ha hv ⟨d,.mapUpdate t x y z,ty,c,h,f⟩ rfl ht hx e hz hm
end
def Gi:List Nat→List (Nat×Bool)→List Nat→List (Nat×Bool)×List Nat
 | [],m,q=>(m,q)
 | j :: r,m,q=>cond (!((AO m j).getD false)) (Gi r ((j,true) :: m) (q++[j])) (Gi r m q)
def Hg (nd:Nat→List Nat×Int):Nat→List (Nat×Bool)→List Nat→List (Nat×Bool)×Int
 | 0,m,_=>(m,0)
 | _ + 1,m,[]=>(m,0)
 | h + 1,m,i :: q=>cond (!((nd i).2 == 0)) ([],(nd i).2) (Hg nd h (Gi (nd i).1 m q).1 (Gi (nd i).1 m q).2)
def DZ (n:List UInt8) (ds:List Df) (day:Int) (i:Nat):List (Nat×Bool)×Int:=Hg (DH n ds day) (ds.length + 1) [(i,true)] [i]
theorem OD:∀ (n:Nat) (l:List Nat),l.Nodup→(∀ x∈l,x < n)→l.length≤n
 | 0,[],_,_=>Nat.le_refl _
 | 0,x :: l,_,h=>absurd (h x (by simp)) (Nat.not_lt_zero _)
 | n + 1,l,hd,h=>by
  by_cases hn:n∈l
  ·have a:=OD n (l.erase n) (hd.erase n) (fun x hx=>by
    have h2:=(hd.mem_erase_iff).1 hx
    have:=h x h2.2
    have:=h2.1
    omega)
   rw [List.length_erase_of_mem hn] at a
   omega
  ·have:=OD n l hd (fun x hx=>by
    have a:=h x hx
    have h2:x≠n:=fun e=>hn (e ▸ hx)
    omega)
   omega
theorem Pu {β:Type}:∀ {m:List (Nat×β)} {j:Nat},AO m j=none→j∉m.map (·.1)
 | [],_,_=>by simp
 | p :: m,j,h=>by
  rw [AO] at h
  split at h
  ·cases h
  ·rename_i hp
   rw [List.map_cons,List.mem_cons]
   rintro (hj | hj)
   ·exact hp hj.symm
   ·exact Pu h hj
def Kc (n:Nat) (m:List (Nat×Bool)):Prop:=(m.map (·.1)).Nodup∧∀ p∈m,p.1 < n∧p.2=true
theorem Kc.le {n:Nat} {m:List (Nat×Bool)} (h:Kc n m):m.length≤n:=by
 have:=OD n (m.map (·.1)) h.1 (fun x hx=>by
  obtain ⟨p,a,rfl⟩:=List.mem_map.1 hx
  exact (h.2 p a).1)
 rwa [List.length_map] at this
theorem Kc.cons {n:Nat} {m:List (Nat×Bool)} (h:Kc n m) {j:Nat} (b:j < n) (hl:(!((AO m j).getD false))=true):Kc n ((j,true) :: m):=by
 have hn:AO m j=none:=by
  cases hx:AO m j with
  | none=>rfl
  | some v=>
   have:=(h.2 _ (FI hx)).2
   rw [hx] at hl
   simp only at this
   rw [this] at hl
   cases hl
 refine ⟨?_,fun p a=>?_⟩
 ·rw [List.map_cons,List.nodup_cons]
  exact ⟨Pu hn,h.1⟩
 ·rcases List.mem_cons.1 a with rfl | a
  ·exact ⟨b,rfl⟩
  ·exact h.2 p a
theorem lZ {n:List UInt8} {ds:List Df} {day:Int} {i:Nat} (hi:i < ds.length) (hn:∀ d∈ds,nE d.body≤1000000):KE ds (DH n ds day i).1:=by
 unfold DH
 cases !(DF n ds day == 0)
 ·cases (cond (!(Fg (An ds day) (i:Int))) (true) (!(Al (ds.getD i default))))
  ·exact RW EI hi hn
  ·exact ⟨fun j a=>(by cases a),Nat.zero_le _⟩
 ·exact ⟨fun j a=>(by cases a),Nat.zero_le _⟩
attribute [local irreducible] A8 BL AC AD AF Ao AY AL Aq Bb Cn BR Dx Cm BK At Fr
noncomputable def Q0:Code:=Tryz.f24.body.getD .skip
def Sc:=AA (Ak EA 90 ([.code Q0])) ([.code Q0])
def Sb:=AA (Ak j4 90 (AC Sc)) (AC Sc)
def aq:=AA 60 (AC Sb)
def ap:=AA 60 (Ao aq)
def qf:=Ai 4 (AD ap)
def Sa:=AA 60 (AL qf)
def AA7:=AA 60 (AD Sa)
def ao:=AA (Ak I2 90 (AF Sa)) (AF Sa)
def SZ:=AA 60 (AC ao)
def am:=AA 60 (Ao SZ)
def Uh:=AA (Ak Aa 90 (AD am)) (AD am)
def Ug:=AA (Ak Ce 90 (AC (AC Uh))) (AC (AC Uh))
def Uf:=AA 60 (AC Ug)
def PN:=AA (Ak EN 90 (AD Uf)) (AD Uf)
def iq:=AA (Ak BS 90 (AC PN)) (AC PN)
def vk:=AA 60 (AF ap)
theorem W8 (f:List UInt8) (dA:Option Addr) (ds:List Df) (dc:Nat) (day:Int) (i:Nat) (w:World) (z0:rowsDf w dA ds) (i1:ds.length≤1000000000) (hi:i < ds.length) (hs:f.length≤4294967296) (ht:∀ d∈ds,FU d) (x0:∀ d∈ds,DR d.body) (hn:∀ d∈ds,nE d.body≤1000000) :
  Calls Tryz.prog 24 ([.agg ⟨[By f,.slice dA ds.length dc]⟩,AI day,AI (i:Int)]:List Value).toArray w fun e w'=>∃ rb,e=.returned (.tuple #[.map rb,AI (DZ f ds day i).2])∧Below w.heap.size w w'∧((DZ f ds day i).2=0→∃ b,rb=some b)∧Ac w.heap.size w' [D0.thO rb (DZ f ds day i).1]:=by
 refine AR (args:=[.agg ⟨[By f,.slice dA ds.length dc]⟩,AI day,AI (i:Int)]) (fn:=Tryz.f24) (c:=Q0) (n:=54) ?_
 have K0:=Wk.start w
 refine CA EA Sc [⟨w.heap.size,0,[By f,.slice dA ds.length dc],27,true⟩] K0 [] fun w1 K1=>?_
 refine Ey D0 K1.H (Br Sc) (by kernel_rfl) (t:=76) (by kernel_rfl) fun w2 Z2 Hn b2=>?_
 have K2:=K1.add b2 Hn
 generalize hgm:w1.heap.size=gm at K2 ⊢
 clear Hn b2 Z2 K1 hgm
 refine Ae j4 Sb K2 [] fun w3 s=>?_
 obtain ⟨w4,m0,H4,b4⟩:=db D0 (ρ:=Ax 54 _) s.H (s.ix 0) (s.at 0 rfl) i true (by show i≤_; omega) trivial (Br Sb) (t:=76) (x:=.tmp 14) (y:=.tmp 15) (z:=.const (.bool true)) (by kernel_rfl) rfl (by kernel_rfl) (by kernel_rfl) (by kernel_rfl) (by decide)
 refine M1 (Br Sb) (by kernel_rfl) m0 ?_
 have K4:=s.put 0 (by simp) b4 H4
 refine Af aq [⟨w.heap.size,0,[By f,.slice dA ds.length dc],27,true⟩,⟨w4.heap.size,0,[AI (i:Int)],3,true⟩] K4 [] fun w5 K5=>?_
 have K6:=K5.entRows (n:=1) 1 (fun e r=>r=FV e) [i] [FV i] ⟨rfl,trivial⟩ rfl rfl (by simp) rfl
 have K7:=K6.put 1 (by simp) (Below.refl _ _) (HO.of K6.H (K6.ix 1) (K6.at 1 rfl) (by simp))
 have a1:DZ f ds day i=Hg (DH f ds day) (ds.length + 1) [(i,true)] [i]:=rfl
 have d0:Kc ds.length [(i,true)]:=⟨by simp,fun p hp=>by rw [List.mem_singleton.1 hp]; exact ⟨hi,rfl⟩⟩
 refine AU [(1,AI day),(3,BY (w.heap.size)),(8,.map (some gm)),(9,.slice (IN w4.heap.size) [i].length 1)] fun E7=>?_
 refine nl (by kernel_rfl) (fun h E wx=>∃ (v:List (Nat×Bool)) (q:List Nat) (qA:Option Addr) (qc:Nat) (E0:Nat→Value),E=BC E0 [(1,AI day),(3,BY (w.heap.size)),(8,.map (some gm)),(9,.slice qA q.length qc)]∧DZ f ds day i=Hg (DH f ds day) h v q∧Kc ds.length v∧(∀ j∈q,j < ds.length)∧q.length≤v.length∧q.length + (ds.length - v.length) < h∧Wk w wx [⟨w.heap.size,0,[By f,.slice dA ds.length dc],27,true⟩] [D0.th gm v,HO qA qc q] []) (ds.length + 1) ⟨[(i,true)],[i],IN w4.heap.size,1,E7,rfl,a1,d0,fun j hj=>by rw [List.mem_singleton.1 hj]; exact hi,Nat.le_refl _,by simp only [List.length_singleton]; omega,K7.pk [0] [0,1]⟩ ?_
 clear K2 s K4 K5 K6 K7 H4 m0 b4 a1 d0
 rintro h E wx ⟨v,q,qA,qc,E0,rfl,l,hok,hq,b0,hh,K1⟩ i0
 have w0:=hok.le
 refine AB ap K1 [] fun w2 K2=>?_
 obtain ⟨h,rfl⟩:∃ k,h=k + 1:=⟨h - 1,by omega⟩
 refine AG (decide (0 < (q.length:Int))) (fun c1=>?_) (fun c1=>?_)
 ·obtain ⟨x,q,rfl⟩:∃ x q',q=x :: q':=by
   cases q with
   | nil=>exact absurd (of_decide_eq_true c1) (by decide)
   | cons x q=>exact ⟨x,q,rfl⟩
  rw [List.length_cons] at b0 hh
  rw [Hg] at l
  have hx:x < ds.length:=hq x (by simp)
  have r0:=lZ (n:=f) (day:=day) hx hn
  refine Am 4 qf K2 [] fun w3 s=>?_
  obtain ⟨gq,fq,rfl,l1,n0⟩:=(HO.rows s.H (s.ix 1) (s.at 1 rfl)).all (by simp)
  have p0:=n0 0 x rfl
  refine yx (γ:=Option Addr×Nat) s (mem:=[⟨w.heap.size,0,[By f,.slice dA ds.length dc],27,true⟩,⟨gq,fq + 0 * 1,[AI (x:Int)],3,false⟩]) [0,1,2,3,4] [(0,0,0),(4,1,0)] [⟨3,[(25,.slice (some ⟨gq,fq,none⟩) (x :: q).length qc)],.pointer (some ⟨gq,fq + 0 * 1,none⟩),true⟩] 5 [6,7,8,9,10] (g:=38) (xs:=[.tmp 23,.tmp 24,.tmp 27]) (args:=[.agg ⟨[By f,.slice dA ds.length dc]⟩,AI day,AI (x:Int)]) (fun y=>.tuple #[.slice y.1 (DH f ds day x).1.length y.2,AI (DH f ds day x).2]) (fun y=>[D0.th gm v,HO (some ⟨gq,fq,none⟩) qc (x :: q)]++[BN y.1 y.2 (DH f ds day x).1]) (fun e he=>?_) (fun sp e1=>?_) (fun u Ku=>(lY f dA ds dc day x u (z0.below Ku.B) (by omega) hx hs ht x0 hn).mono fun e w' hh=>?_) fun y w4 K4=>?_
  ·simp only [List.mem_cons,List.not_mem_nil,or_false] at he
   rcases he with rfl | rfl
   ·exact s.ent 0 rfl
   ·exact ⟨l1,p0⟩
  ·rw [List.mem_singleton.1 e1]
   exact BG fun _ E u _=>BZ (sz:=1) (k:=0) (len:=(x :: q).length) (cap:=qc) 22 (.tmp 25) (.const (AI 0)) (Nat.succ_pos _) Tryz.underlying22
  ·obtain ⟨rA,rc,rfl,b,Hn⟩:=hh
   exact ⟨(rA,rc),rfl,Ku.join b Hn⟩
  obtain ⟨nA,nc⟩:=y
  refine AB Sa K4 [] fun w5 K5=>?_
  refine AG (!((DH f ds day x).2 == 0)) (fun c2=>?_) (fun c2=>?_) <;> rw [c2] at l
  ·replace l:DZ f ds day i=([],(DH f ds day x).2):=l
   refine AB AA7 K5 [] fun w6 K6=>?_
   have g1:(DH f ds day x).2≠0:=by simpa using c2
   refine AJ K6 (0,0) (.tuple #[.map none,AI (DH f ds day x).2]) ⟨none,by rw [l],K6.B,fun h0=>absurd (by rw [l] at h0; exact h0) g1,?_⟩
   rw [l]
   exact (K6.own0 (L':=[]) [] rfl (by decide)).add (D0.thO none []) rfl (fun _ h=>h)
  replace l:DZ f ds day i=Hg (DH f ds day) h (Gi (DH f ds day x).1 v q).1 (Gi (DH f ds day x).1 v q).2:=l
  generalize (DH f ds day x)=nd at l r0 K5 ⊢
  obtain ⟨ns,ne⟩:=nd
  obtain ⟨g0,t0⟩:=r0
  replace g0:∀ j∈ns,j < ds.length:=g0
  replace t0:ns.length≤1000000:=t0
  replace l:DZ f ds day i=Hg (DH f ds day) h (Gi ns v q).1 (Gi ns v q).2:=l
  replace K5:Wk w w5 [⟨w.heap.size,0,[By f,.slice dA ds.length dc],27,true⟩] [D0.th gm v,HO (some ⟨gq,fq,none⟩) qc (x :: q),BN nA nc ns] []:=K5
  refine Ae I2 ao K5 [] fun w6 K6=>?_
  refine C4 (Rf (o:=Br ao) (sz:=1) (len:=(x :: q).length) (cap:=qc) (a:=some ⟨gq,fq,none⟩) (x:=.tmp 34) (by kernel_rfl) Tryz.underlying22 (by kernel_rfl) (by kernel_rfl) (Nat.succ_le_succ (Nat.zero_le _)) (by kernel_rfl)) ?_
  have K7:=K6.put 1 (by simp) (Below.refl _ _) (HO.cut K6.H (K6.ix 1) (K6.at 1 rfl))
  refine AB SZ K7 [] fun w8 K8=>?_
  have f1:=(K8.H.rowsNat (K8.ix 2) (K8.at 2 rfl))
  have q0:∀ j∈q,j < ds.length:=fun j hj=>hq j (by simp [hj])
  refine AU [(1,AI day),(3,BY (w.heap.size)),(8,.map (some gm)),(9,.slice (if qc=1 then some ⟨gq,fq,none⟩ else (some (⟨gq,fq,none⟩:Addr)).map (·.add (1 * 1))) q.length (qc - 1)),(36,.slice nA ns.length nc),(37,AI (ns.length:Int)),(38,AI ((0:Nat):Int))] fun E8=>?_
  refine Bd (by kernel_rfl) (fun E wx=>∃ (j:Nat) (ml':List (Nat×Bool)) (q':List Nat) (qA:Option Addr) (qc:Nat) (E0:Nat→Value),j≤ns.length∧E=BC E0 [(1,AI day),(3,BY (w.heap.size)),(8,.map (some gm)),(9,.slice qA q'.length qc),(36,.slice nA ns.length nc),(37,AI (ns.length:Int)),(38,AI (j:Int))]∧DZ f ds day i=Hg (DH f ds day) h (Gi (ns.drop j) ml' q').1 (Gi (ns.drop j) ml' q').2∧Kc ds.length ml'∧(∀ j∈q',j < ds.length)∧q'.length≤ml'.length∧q'.length + (ds.length - ml'.length) < h∧Wk w wx [⟨w.heap.size,0,[By f,.slice dA ds.length dc],27,true⟩] [D0.th gm ml',HO qA qc q',BN nA nc ns] []) (fun E _=>ns.length - AK (E 38)) ⟨0,v,q,_,_,E8,Nat.zero_le _,rfl,l,hok,q0,by omega,by omega,K8⟩ ?_
  clear K2 s K4 K5 K6 K7 K8 f1 l hok w0 hq q0 b0 hh n0 p0 c1 c2
  rintro E wx ⟨j,v,q,qA,qc,E0,hj,rfl,l,hok,hq,b0,hh,K1⟩ a0
  have w0:=hok.le
  refine AB am K1 [] fun w2 K2=>?_
  refine AG (decide ((j:Int) < (ns.length:Int))) (fun c1=>?_) (fun c1=>?_)
  ·have c0:j < ns.length:=by have:=of_decide_eq_true c1; omega
   obtain ⟨y,hy⟩:∃ y,ns[j]?=some y:=⟨_,List.getElem?_eq_getElem c0⟩
   have l0:y < ds.length:=g0 y (List.mem_of_getElem? hy)
   have m1:ns.drop j=y :: ns.drop (j + 1):=by
    have he:ns[j]=y:=(List.getElem?_eq_some_iff.1 hy).2
    rw [← List.getElem_cons_drop c0,he]
   rw [m1,Gi] at l
   obtain ⟨gn,fn,rfl,p1,h1⟩:=(K2.H.rowsNat (K2.ix 2) (K2.at 2 rfl)).all (by omega)
   have o1:=h1 j _ hy
   have Kn:=K2
   refine Ae Aa Uh K2 [] fun w3 s=>?_
   obtain ⟨g3,f3,h3,n1,s0⟩:=(s.H.rowsNat (s.ix 2) (s.at 2 rfl)).all (by omega)
   obtain ⟨rfl,rfl⟩:gn=g3∧fn=f3:=by injection h3 with h3; injection h3 with h3 h4; exact ⟨h3,h4⟩
   refine Au (g:=gn) (off:=fn) (cap:=nc) (sz:=1) (k:=j) (len:=ns.length) (some 40) c0 Tryz.underlying22 ?_
   refine Dh 3 gn (fn + j * 1) (AI (y:Int)) (some 41) (by simpa using s0 j _ hy 0 _ rfl) ?_
   refine Ae Ce Ug s [] fun w4 K4=>?_
   refine C4 (Ff D0 (o:=Br Ug) (b:=gm) (m:=v) (x:=.tmp 42) (y:=.tmp 43) (by kernel_rfl) rfl (by kernel_rfl) y (by kernel_rfl) (by show y≤_; omega) (K4.H.all (K4.ix 0) _ (K4.at 0 rfl))) ?_
   refine AB Uf K4 [] fun w5 K5=>?_
   refine AG (!((AO v y).getD false)) (fun c2=>?_) (fun c2=>?_) <;> rw [c2] at l
   ·have e0:=hok.cons l0 c2
    have v0:=e0.le
    rw [List.length_cons] at v0
    refine Ae EN PN K5 [] fun w6 K6=>?_
    refine Fj D0 K6.H (K6.ix 0) (K6.at 0 rfl) y true (by show y≤_; omega) trivial (Br PN) (by kernel_rfl) (t:=76) (x:=.tmp 46) (y:=.tmp 47) (z:=.const (.bool true)) (by kernel_rfl) rfl (by kernel_rfl) (by kernel_rfl) (by kernel_rfl) (by omega) fun w7 Hn b7=>?_
    have K7:=K6.put 0 (by simp) b7 Hn
    refine CA BS iq [⟨w.heap.size,0,[By f,.slice dA ds.length dc],27,true⟩,⟨w7.heap.size,0,[AI (y:Int)],3,true⟩] K7 [] fun w8 K8=>?_
    obtain ⟨A',c',w9,d1,H9,b9⟩:=jn (k:=54) (E:=_) K8.H (K8.ix 1) (K8.at 1 rfl) y w7.heap.size (K8.ent 1 rfl) (Br iq) (.tmp 48) (.tmp 50) (by kernel_rfl) (by kernel_rfl) (by kernel_rfl) (by omega)
    refine C4 d1 ?_
    have K9:=K8.put 1 (by simp) b9 H9
    refine AB (AY SZ) K9 [] fun b1 j0=>?_
    refine AU [(1,AI day),(3,BY (w.heap.size)),(8,.map (some gm)),(9,.slice A' (q++[y]).length c'),(36,.slice (some ⟨gn,fn,none⟩) ns.length nc),(37,AI (ns.length:Int)),(38,AI (IntKind.i64.wrap ((j:Int) + 1)))] fun k0=>?_
    rw [Bc j (by omega)]
    refine a0 _ _ ⟨j + 1,(y,true) :: v,q++[y],A',c',k0,c0,rfl,l,e0,fun z hz=>?_,by rw [List.length_append,List.length_singleton,List.length_cons]; omega,by rw [List.length_append,List.length_singleton,List.length_cons]; omega,j0.pk [0] [0,1,2]⟩ ?_
    ·rcases List.mem_append.1 hz with hz | hz
     ·exact hq z hz
     ·rw [List.mem_singleton.1 hz]; exact l0
    ·show ns.length - AK (AI ((j + 1:Nat):Int)) < ns.length - AK (AI (j:Int))
     simp only [AK]
     omega
   ·refine AB (AY SZ) K5 [] fun b1 j0=>?_
    refine AU [(1,AI day),(3,BY (w.heap.size)),(8,.map (some gm)),(9,.slice qA q.length qc),(36,.slice (some ⟨gn,fn,none⟩) ns.length nc),(37,AI (ns.length:Int)),(38,AI (IntKind.i64.wrap ((j:Int) + 1)))] fun k0=>?_
    rw [Bc j (by omega)]
    refine a0 _ _ ⟨j + 1,v,q,qA,qc,k0,c0,rfl,l,hok,hq,b0,hh,j0⟩ ?_
    show ns.length - AK (AI ((j + 1:Nat):Int)) < ns.length - AK (AI (j:Int))
    simp only [AK]
    omega
  ·have k1:j=ns.length:=by have:=of_decide_eq_false c1; omega
   rw [k1,List.drop_length,Gi] at l
   refine AB (AY aq) K2 [] fun w3 s=>?_
   refine AU [(1,AI day),(3,BY (w.heap.size)),(8,.map (some gm)),(9,.slice qA q.length qc)] fun E3=>?_
   exact i0 h _ _ (Nat.lt_succ_self h) ⟨v,q,qA,qc,E3,rfl,l,hok,hq,b0,hh,s.pk [0] [0,1]⟩
 ·obtain rfl:q=[]:=by
   cases q with
   | nil=>rfl
   | cons x q=>exact absurd c1 (by simp)
  rw [Hg] at l
  refine AB vk K2 [] fun w3 s=>?_
  refine AJ s (0,0) (.tuple #[.map (some gm),AI 0]) ⟨some gm,by rw [l],s.B,fun _=>⟨gm,rfl⟩,?_⟩
  rw [l]
  exact s.own0 (L':=[D0.th gm v]) [0] rfl (by decide)
end
end Go.Proofs.YtkjbdagicjbjjaaGreat

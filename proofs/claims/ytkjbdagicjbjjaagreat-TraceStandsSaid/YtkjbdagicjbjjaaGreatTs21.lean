/- Contracts of functions, part 21. -/
import Derived.Test.YtkjbdagicjbjjaaGreatTs20
set_option linter.all false
namespace Go.Proofs.YtkjbdagicjbjjaaGreat
open Go.RowKit
set_option maxRecDepth 100000
set_option maxHeartbeats 1000000
attribute [local irreducible] BD BP AC AD AF Ar AZ AM Aw Bk C6 BV BO At Fr
theorem Jo {ds:List Df} {p1:Int}:∀ (es:List Df) (i:Nat) (a:List Nat),(∀ x∈a,x < i)→∀ x∈Ck ds p1 es i a,x < i + es.length
 | [],i,a,h=>fun x hx=>by rw [Ck] at hx; exact h x hx
 | e :: es,i,a,h=>fun x hx=>by
  rw [Ck] at hx
  rw [List.length_cons]
  revert hx
  cases (cond (cond (e.kind == 1) (true) (e.kind == 5)) (true) (cond (decide (e.frm≤p1)) (!(Cr ds p1 i)) (false))) <;> intro hx
  ·have:=Jo es (i + 1) a (fun x hx=>Nat.lt_succ_of_lt (h x hx)) x hx
   omega
  have:=Jo es (i + 1) (a++[i]) (fun x hx=>by
   rcases List.mem_append.1 hx with hx | hx
   ·exact Nat.lt_succ_of_lt (h x hx)
   rw [List.mem_singleton.1 hx]; exact Nat.lt_succ_self i) x hx
  omega
theorem Jn {ds:List Df} {p1:Int}:∀ (es:List Df) (i:Nat) (a:List Nat),(Ck ds p1 es i a).length≤a.length + es.length
 | [],i,a=>by rw [Ck]; exact Nat.le_refl _
 | e :: es,i,a=>by
  rw [Ck,List.length_cons]
  cases (cond (cond (e.kind == 1) (true) (e.kind == 5)) (true) (cond (decide (e.frm≤p1)) (!(Cr ds p1 i)) (false)))
  ·have:=Jn (ds:=ds) (p1:=p1) es (i + 1) a
   exact Nat.le_trans this (by omega)
  have:=Jn (ds:=ds) (p1:=p1) es (i + 1) (a++[i])
  rw [List.length_append,List.length_singleton] at this
  exact Nat.le_trans this (by omega)
theorem Ed {ds:List Df} {p1:Int}:∀ x∈Aa ds p1,x < ds.length:=fun x hx=>by
 have:=Jo ds 0 [] (fun x hx=>by cases hx) x hx
 omega
theorem JR {ds:List Df} {p1:Int}:(Aa ds p1).length≤ds.length:=by
 have:=Jn (ds:=ds) (p1:=p1) ds 0 []
 simpa [Aa] using this
theorem Ew {n:List UInt8} {ds:List Df} {p1:Int}:∀ x∈Ct n ds p1,x < ds.length:=fun x hx=>by
 unfold Ct at hx
 revert hx
 cases !(C7 n ds p1 == 0) <;> intro hx
 ·exact Ed x hx
 cases hx
theorem Yr {n:List UInt8} {ds:List Df} {p1:Int}:(Ct n ds p1).length≤ds.length:=by
 unfold Ct
 cases !(C7 n ds p1 == 0)
 ·exact JR
 exact Nat.zero_le _
end Go.Proofs.YtkjbdagicjbjjaaGreat
namespace Go.Proofs.YtkjbdagicjbjjaaGreat
open Go.RowKit
set_option maxRecDepth 100000
set_option maxHeartbeats 1000000
section
variable {P:Program} {fi:FuncId} {R:Ending→World→Prop}
end
section
variable {P:Program} {ops:Array Oper} {Q:Exit→Act→World→Prop} {md:Region.Mode} {n:Nat} {E:Nat→Value}
theorem YB {a:Array Bool} {fuel i:Nat} {w:World} (o:Oper) (g:FuncId) (xs:List Operand) (args:List Value) {ats:Array TypeId} (hr:Region.ready md ops a=[i]) (ho:ops[i]?=some o) (b:o.guard=none)
  (hop:o.op=.call ⟨.value (.func g),xs.toArray,ats⟩) (ha:xs.map (A8 n E)=args) (hg:DX P g=true)
  (h:Calls P g args.toArray w fun e w'=>∃ v,e=.returned v∧wpAny P md ops Q fuel (a.setIfInBounds i true) (Fr n (Aw E o.dst v)) w'):wpAny P md ops Q (fuel + 1) a (Fr n E) w:=by
 refine KH hr ho b ?_
 unfold Oper.wp
 rw [D7]
 have e:(execOp (A8 n E) o).run P w=.ok (.enter g args.toArray) w:=by
  rw [← CV (h:=hg) args.toArray w,← ha]
  obtain ⟨d,op,ty,f,m,k⟩:=o
  simp only at hop
  subst hop
  unfold execOp resolve
  simp only [List.map_toArray]
  show ((Deferred.ofValue (.func (.func g) #[] #[]) (xs.map (A8 n E)).toArray).bind fun d=>invoke d.target d.args).run P w=_
  unfold Deferred.ofValue
  simp [invoke,pure,Sem.bind]
 rw [e]
 refine h.mono fun l w' j=>?_
 obtain ⟨v,rfl,c⟩:=j
 show wpAny P md ops Q fuel _ ((Fr n E).put o.dst v) w'
 rw [El]
 exact c
end
abbrev aT:=Int×Int×Int×Int×Int×Int
instance:Inhabited aT:=⟨(0,0,0,0,0,0)⟩
def Wm (l:List aT) (i:Nat) (v:Int):List aT:=l.set i ((l.getD i default).1,v,(l.getD i default).2.2)
theorem fh (l:List aT) (i:Nat) (v:Int):(Wm l i v).length=l.length:=by unfold Wm; rw [List.length_set]
theorem Bc.below {α β:Type} [DecidableEq α] {S:Bc α β} {b:Nat} {m:List (α×β)} {w w':World} (h:S.at b m w) (B:Below (ε w) w w'):S.at b m w':=S.at_fr h fun hl=>B.block b hl
theorem FO.ex {lo hi v:Nat} {xs:List (Ex×List Value)} {u:World} (h:(FO lo hi xs).P u) (hl:v≤lo):∀ p∈xs,DE (fun g=>v≤g) u p.1 p.2:=fun p a=>DE.keep (Nat.le_refl _) (fun g hg _=>⟨Nat.le_trans hl hg.1,rfl⟩) _ _ (h.2 p a)
theorem Wk.newer {w0 u w:World} {M:List A7} {X T:List Th} {b:Nat} {ns:List Int} (K:Wk w0 u M (BF w0 b ns :: Bh b w :: X) T) (f:w0.heap.size=b) {e:A7} (j:Nat) (c:M[j]?=some e):w.heap.size≤e.id:=by
 have hl:=(List.getElem?_eq_some_iff.1 c).1
 have hx:(M.map Th.ent++((BF w0 b ns :: Bh b w :: X)++T))[j]?=some (Th.ent e):=by rw [List.getElem?_append_left (by rw [List.length_map]; exact hl),List.getElem?_map,c]; rfl
 have d:=(K.H.lo j _ hx e.id rfl).1
 refine Nat.le_of_not_lt fun a=>?_
 by_cases hb:e.id=b
 ·exact K.H.apart j (K.ix 0) _ _ hx (K.at 0 rfl) (by unfold Wk.ix; omega) e.id rfl hb
 exact K.H.apart j (K.ix 1) _ _ hx (K.at 1 rfl) (by unfold Wk.ix; omega) e.id rfl ⟨by omega,a⟩
theorem Pu {S:Nat→Prop} {u:World}:∀ {xs:List (Ex×List Value)},(∀ p∈xs,DE S u p.1 p.2)→FU S u (xs.map (·.1)) (xs.map (·.2))
 | [],_=>by unfold FU; rfl
 | p :: xs,h=>by
  rw [List.map_cons,List.map_cons]
  unfold FU
  exact ⟨_,_,rfl,h p (by simp),Pu fun q a=>h q (by simp [a])⟩
theorem wV {S:Nat→Prop} {u:World} {x:Ex} {a:List Value} (h:DE S u x a):a.length=10:=by
 obtain ⟨_,_,_,_,_,_,_,_,_,_,_,_,rfl⟩:=h.cells
 rfl
theorem LD.node {b:Nat} {ns:List Int} {n:Int} {h:Nat} {t:Ty} {w w':World} {g c:Nat} {x:Ex} {xs:List (Ex×List Value)} (hx:CT n h t x) (e:x.ks=xs.map (·.1)) (a:∀ p∈xs,DE (fun g=>w.heap.size≤g) w' p.1 p.2) (hg:(ε w)≤g) (he:A7.good w' (ι g ((xs.map (·.2)).flatten) 53)) (ho:Be b ns w'∧CG b w w'):LD b ns n h t w (.returned (ψ (AX x (θ g) c))) w':=
 ⟨x,_,_,rfl,hx,Ob (by rw [e]; exact Pu a) (Sk hg (fun r hr=>by obtain ⟨p,d,rfl⟩:=List.mem_map.1 hr; exact wV (a p d)) he),ho⟩
def Mx (ks:List Ex):Ex:=.mk 0 0 0 0 0 0 [] 0 0 ks
theorem qM {S:Nat→Prop} {u:World} {ks:List Ex} {A:Option Addr} {c:Nat} {e:Ex} (h:DE S u (Mx ks) (AX (Mx ks) A c)) (he:e.ks=ks):DE S u e (AX e A c):=by
 unfold Mx DE at h
 obtain ⟨A',c',rs,h1,h2,h3⟩:=h
 have h4:Value.slice A ks.length c=.slice A' ks.length c':=by
  have:=congrArg (fun l:List Value=>l[9]?) h1
  exact Option.some.inj this
 simp only [Value.slice.injEq,true_and] at h4
 obtain ⟨rfl,rfl⟩:=h4
 exact Ob (by rw [he]; exact h2) h3
theorem Im {b:Nat} {ns:List Int} {n:Int} {h:Nat} {t:Ty} {w:World}:∀ e w',LD b ns n h t w e w'→Be b ns w'∧CG b w w':=fun _ _ ⟨_,_,_,_,_,_,a,h2⟩=>⟨a,h2⟩
theorem Ds {b:Nat} {ns:List Int} {n:Int} {h lo:Nat} {t:Ty} {u:World} (hl:lo≤(ε u)) {e:Ending} {w':World} (a:LD b ns n h t u e w'):∃ v,e=.returned v∧Be b ns w'∧CG b u w'∧CA lo n h t v w':=by
 obtain ⟨x,A,c,rfl,i,h2,f,d⟩:=a
 exact ⟨_,rfl,f,d,x,A,c,rfl,i,DE.keep (Nat.le_refl _) (fun g hg _=>⟨Nat.le_trans hl hg,rfl⟩) _ _ h2⟩
theorem NO {s:Ty} (h:s∈Lq):s∈EG:=by
 simp only [Lq,EG,List.mem_cons,List.not_mem_nil,or_false] at h ⊢
 rcases h with rfl | rfl | rfl | rfl <;> simp
theorem OA {t:Ty} {f:FuncId} {u:World} {b:Nat} {ns:List Int} (c:Be b ns u) (h:Calls Tryz.prog f ([]:List Value).toArray u fun e w'=>e=.returned (ψ (Ax t))∧Below (ε u) u w'):Calls Tryz.prog f ([]:List Value).toArray u fun e w'=>∃ v,e=.returned v∧Be b ns w'∧CG b u w'∧v=ψ (Ax t):=
 h.mono fun e w' ⟨he,a⟩=>⟨_,he,c.below a,.of_below a,rfl⟩
attribute [local irreducible] BD BP AC AD AF Ar AZ AM Aw Bk C6 BV Fo EE C5 BO At Fr
end Go.Proofs.YtkjbdagicjbjjaaGreat

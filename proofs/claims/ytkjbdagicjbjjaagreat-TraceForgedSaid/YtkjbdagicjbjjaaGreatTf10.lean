/-
  Part 10 of a proof: contracts of functions.
-/
import Derived.Test.YtkjbdagicjbjjaaGreatTf09
set_option linter.all false
namespace Go.Proofs.YtkjbdagicjbjjaaGreat
noncomputable section
open Go.RowKit
set_option maxRecDepth 100000
section
variable (P:Program) (n:Nat) (ops:Array Oper) (mem:List Az) (hints:List (Nat×Nat×Nat)) (specs:List Sp)
def He (hints:List (Nat×Nat×Nat)) (i:Nat):Nat×Nat:=match hints.find? (fun p=>p.1 == i) with
 | some p=>p.2
 | none=>(0,0)
def Lu (G:Nat→Value) (i:Nat):Value:=match Gr specs i with
 | some sp=>sp.v
 | none=>match (DO P (execOp (Ax n G) (ops.getD i default)) ⟨0,mem,He hints i,[]⟩).bind (fun r=>Do r.1) with
  | some v=>v
  | none=>undef
def Cm:List Nat→(Nat→Value)→Nat→Value
 | [],G=>G
 | i :: r,G=>Cm r (Aq G (Ck ops i) (Lu P n ops mem hints specs G i))
def Sx (i:Nat):List Nat→List Nat
 | []=>[]
 | j :: r=>match Nat.beq j i with
  | true=>[]
  | false=>j :: Sx i r
def EP (m:List Nat) (E:Nat→Value) (i:Nat):Nat→Value:=Cm P n ops mem hints specs (Sx i m) E
def Da (m:List Nat) (E:Nat→Value) (i:Nat):Value:=Lu P n ops mem hints specs (EP P n ops mem hints specs m E i) i
def DC (m:List Nat):Wr:=m.filterMap fun i=>(Ck ops i).map fun t=>(t,i)
def nU (m:List Nat) (i:Nat):List Nat:=((ops.getD i default).looksAt ops).filterMap (DC ops m).of
def yd (m:List Nat):Nat→Nat→List Nat
 | 0,i=>nU ops m i
 | k + 1,i=>nU ops m i++(nU ops m i).flatMap (yd m k)
def EL (m:List Nat) (i:Nat):List Nat:=yd ops m 5 i
def D7 (m:List Nat) (E:Nat→Value):List Ct:=m.map fun i=>BV i (EL ops m i) (Da P n ops mem hints specs m E i)
def MI (m:List Nat) (E:Nat→Value) (X:Nat→Value) (i:Nat):Operand→Value
 | .tmp t=>match (DC ops m).of t with
  | some j=>match (EL ops m i).contains j with
   | true=>Da P n ops mem hints specs m E j
   | false=>X j
  | none=>Ax n E (.tmp t)
 | x=>Ax n E x
def JQ (o:Oper):Bool:=match o.op with
 | .select _ _=>false
 | _=>true
def Lv (m:List Nat) (E:Nat→Value) (X:Nat→Value) (i:Nat):List Value×List Value×Option (Option Value×List Nat):=
 ((ops.getD i default).op.operands.toList.map (MI P n ops mem hints specs m E X i),match Gr specs i with
  | some sp=>sp.l.map fun p=>Ax n (EP P n ops mem hints specs m E i) (.tmp p.1)
  | none=>[],match Gr specs i with
  | some _=>none
  | none=>(DO P (execOp (Ax n (EP P n ops mem hints specs m E i)) (ops.getD i default)) ⟨0,mem,He hints i,[]⟩).map fun r=>(Do r.1,r.2.eqs.map Prod.fst))
def JT (m:List Nat) (E:Nat→Value) (i:Nat):List Value×List Value×Option (Option Value×List Nat):=
 ((ops.getD i default).op.operands.toList.map (Ax n (EP P n ops mem hints specs m E i)),match Gr specs i with
  | some sp=>sp.l.map (·.2)
  | none=>[],match Gr specs i with
  | some _=>none
  | none=>(DO P (execOp (Ax n (EP P n ops mem hints specs m E i)) (ops.getD i default)) ⟨0,mem,He hints i,[]⟩).map fun r=>(some (Da P n ops mem hints specs m E i),r.2.eqs.map Prod.snd))
def Ed (m:List Nat) (E:Nat→Value) (i:Nat):Bool:=JQ (ops.getD i default) && match Gr specs i with
 | some sp=>sp.cond
 | none=>(DO P (execOp (Ax n (EP P n ops mem hints specs m E i)) (ops.getD i default)) ⟨0,mem,He hints i,[]⟩).isSome
def Dx:List (Nat×Nat×Nat)→(Nat→Value)→List Az→Nat→Option ((Nat→Value)×List Az×Nat×List (Nat×Nat))
 | [],E,M,z=>some (E,M,z,[])
 | p :: r,E,M,z=>match CL P (execOp (Ax n E) (ops.getD p.1 default)) ⟨z,M,p.2,[]⟩ with
  | some (nx,ms')=>match Do nx,ms'.mem.all (·.own) with
   | some v,true=>match Dx r (Aq E (ops.getD p.1 default).dst v) ms'.mem ms'.sz with
    | some q=>some (q.1,q.2.1,q.2.2.1,ms'.eqs++q.2.2.2)
    | none=>none
   | _,_=>none
  | none=>none
def Iz (md:Region.Mode):Array Bool→List Nat→Bool
 | listed,[]=>(Region.ready md ops listed).isEmpty
 | listed,i :: r=>(Region.ready md ops listed == [i]) && ((ops.getD i default).guard.isNone && (Nat.blt i ops.size && Iz md (listed.setIfInBounds i true) r))
end
section
variable {P:Program} {n:Nat} {ops:Array Oper} {mem:List Az} {hints:List (Nat×Nat×Nat)} {specs:List Sp}
theorem IG {ρ:Operand→Value}:∀ {l:List (Tmp×Value)},l.map (fun p=>ρ (.tmp p.1))=l.map (·.2)→IU ρ l
 | [],_=>trivial
 | p :: l,h=>⟨(List.cons.inj h).1,IG (List.cons.inj h).2⟩
theorem AM.of_quiet {o:Oper} {ρ:Operand→Value} {w:World} {C:World→Prop} {v:Value} {K:Value→World→Prop} (h:Oper.quietUpon P C w v ((execOp ρ o).run P w)) (hc:C w) (b:∀ w',C w'→K v w'):AM P o ρ w K:=by
 unfold AM
 unfold Oper.quietUpon at h
 split at h
 ·rename_i u w' he; obtain ⟨rfl,rfl⟩:=h; rw [he]; exact b _ hc
 ·rename_i w' he; obtain ⟨rfl,rfl⟩:=h; rw [he]; exact b _ hc
 ·rename_i g args w' he
  obtain ⟨rfl,h⟩:=h
  rw [he]
  exact h.mono fun e a ⟨c,h2⟩=>⟨v,c,b a h2⟩
 ·exact h.elim
theorem IJ {m:List Nat} {E:Nat→Value} {vals:Nat→Value} {u:World} {B:List Nat}:∀ {l:List Nat},FP B vals u (l.map fun i=>BV i (EL ops m i) (Da P n ops mem hints specs m E i))→∀ j∈l,B.contains j=true→vals j=Da P n ops mem hints specs m E j
 | [],_,_,h,_=>by cases h
 | i :: l,hb,j,a,hB=>by
  rw [List.map_cons] at hb
  unfold FP at hb
  rcases List.mem_cons.1 a with rfl | a
  ·rw [show (BV j (EL ops m j) (Da P n ops mem hints specs m E j)).idx=j from rfl,hB] at hb
   exact (List.cons.inj hb.1).1
  ·split at hb
   ·exact IJ hb.2 j a hB
   ·exact IJ hb j a hB
theorem Ir {m:List Nat} {E:Nat→Value} {vals:Nat→Value} {u:World}:∀ {l:List Nat},FK vals u (l.map fun i=>BV i (EL ops m i) (Da P n ops mem hints specs m E i))→∀ j∈l,vals j=Da P n ops mem hints specs m E j
 | [],_,_,h=>by cases h
 | i :: l,hb,j,a=>by
  rw [List.map_cons] at hb
  unfold FK at hb
  rcases List.mem_cons.1 a with rfl | a
  ·exact (List.cons.inj hb.1).1
  ·exact Ir hb.2 j a
theorem Sw {i:Nat}:∀ {B C:List Nat},i∉B→Sx i (B++i :: C)=B
 | [],C,_=>by
  show (match Nat.beq i i with | true=>[] | false=>i :: Sx i C)=[]
  rw [Nat.beq_refl]
 | j :: B,C,h=>by
  have a:Nat.beq j i=false:=by
   cases hb:Nat.beq j i with
   | false=>rfl
   | true=>exact absurd (by rw [Nat.eq_of_beq_eq_true hb]; simp) h
  rw [List.cons_append]
  unfold Sx
  rw [a,Sw (fun hm=>h (by simp [hm]))]
theorem L0 {m:List Nat} {E:Nat→Value} {vals:Nat→Value} (hn:m.Nodup) (hv:∀ j∈m,vals j=Da P n ops mem hints specs m E j):Kq ops vals m E=Cm P n ops mem hints specs m E:=by
 have go:∀ (C B:List Nat),B++C=m→C.foldl (fun E i=>Aq E (Ck ops i) (vals i)) (Cm P n ops mem hints specs B E)=Cm P n ops mem hints specs m E:=by
  intro C
  induction C with
  | nil=>intro B b; rw [List.append_nil] at b; rw [b]; rfl
  | cons i C ih=>
   intro B b
   have hi:i∈m:=by rw [← b]; simp
   have c:i∉B:=fun hb=>by
    rw [← b,List.nodup_append] at hn
    exact hn.2.2 i hb i (by simp) rfl
   rw [List.foldl_cons,hv i hi]
   have h2:Cm P n ops mem hints specs (B++[i]) E=Aq (Cm P n ops mem hints specs B E) (Ck ops i) (Da P n ops mem hints specs m E i):=by
    have a:∀ (B:List Nat) (G:Nat→Value),Cm P n ops mem hints specs (B++[i]) G=Aq (Cm P n ops mem hints specs B G) (Ck ops i) (Lu P n ops mem hints specs (Cm P n ops mem hints specs B G) i):=by
     intro B
     induction B with
     | nil=>intro G; rfl
     | cons j B ihb=>intro G; exact ihb _
    rw [a]
    unfold Da EP
    rw [← b,Sw c]
   rw [← h2]
   exact ih (B++[i]) (by rw [List.append_assoc]; exact b)
 exact go m [] rfl
theorem KC {Q:Exit→Act→World→Prop} {w0:World} {L T:List Th} {fuel:Nat}:∀ (l:List (Nat×Nat×Nat)) (b:Array Bool) (E:Nat→Value) (M:List Az) (w:World) (K:Wk w0 w M L T) (z:Nat) (_:w.heap.size=z) (q:(Nat→Value)×List Az×Nat×List (Nat×Nat)),
  Dx P n ops l E M z=some q→(∀ p∈q.2.2.2,p.1=p.2)→Iz ops .any b (l.map (·.1))=true→(∀ w' a,Wk w0 w' q.2.1 L T→a=Fr n q.1→Q .normal a w')→wpAny P .any ops Q (l.length + fuel) b (Fr n E) w
 | [],b,E,M,w,K,z,_,q,hq,_,hr,hk=>by
  obtain rfl:=Option.some.inj hq
  exact Em (hr:=(List.isEmpty_iff.1 hr)) (hk w _ K rfl)
 | p :: r,b,E,M,w,K,z,hz,q,hq,he,hr,hk=>by
  subst hz
  rw [List.map_cons] at hr
  unfold Iz at hr
  rw [Bool.and_eq_true,Bool.and_eq_true,Bool.and_eq_true] at hr
  obtain ⟨k,h2,s,o⟩:=hr
  have k:=eq_of_beq k
  have i:p.1 < ops.size:=Nat.le_of_ble_eq_true s
  have ho:ops[p.1]?=some (ops.getD p.1 default):=by simp [Array.getD,i]
  unfold Dx at hq
  cases hm:CL P (execOp (Ax n E) (ops.getD p.1 default)) ⟨w.heap.size,M,p.2,[]⟩ with
  | none=>rw [hm] at hq; cases hq
  | some x=>
   obtain ⟨f,c⟩:=x
   rw [hm] at hq
   simp only at hq
   split at hq
   ·rename_i v hv hown
    cases hg:Dx P n ops r (Aq E (ops.getD p.1 default).dst v) c.mem c.sz with
    | none=>rw [hg] at hq; cases hq
    | some q'=>
     rw [hg] at hq
     obtain rfl:=Option.some.inj hq
     have j:c.eqs.map Prod.fst=c.eqs.map Prod.snd:=List.map_congr_left fun y g=>he y (List.mem_append_left _ g)
     rw [show (p :: r).length + fuel=(r.length + fuel) + 1 by simp; omega]
     have d:EB (M.map (·.id)) w.heap.size w ⟨w.heap.size,M,p.2,[]⟩:=by
      have:=K.H.lies
      exact ⟨this.sat,this.le,this.own⟩
     have h:f=.value v∨(f=.skip∧v=undef):=by
      cases f <;> simp [Do] at hv
      ·exact .inl (by rw [hv])
      ·exact .inr ⟨rfl,hv.symm⟩
     refine Yh (ops.getD p.1 default) ⟨w.heap.size,M,p.2,[]⟩ c f v k ho (by simpa using h2) hm h d j fun w' e m=>?_
     have t:Wk w0 w' c.mem L T:=⟨K.B.trans (K.H.keptB m),K.H.run e m hown⟩
     exact KC r _ _ _ w' t c.sz e.sat.size q' hg (fun y g=>he y (List.mem_append_right _ g)) o hk
   ·cases hq
theorem H1 {l:List (Nat×Nat)} (h:l.map Prod.fst=l.map Prod.snd):∀ p∈l,p.1=p.2:=fun p b=>by
 obtain ⟨i,hi⟩:=List.mem_iff_getElem?.1 b
 have a:(l.map Prod.fst)[i]?=some p.1:=by rw [List.getElem?_map,hi]; rfl
 have h2:(l.map Prod.snd)[i]?=some p.2:=by rw [List.getElem?_map,hi]; rfl
 rw [h,h2] at a
 exact (Option.some.inj a).symm
def BR (P:Program) (n:Nat) (ops:Array Oper) (mem:List Az) (hints:List (Nat×Nat×Nat)) (specs:List Sp) (m:List Nat) (E:Nat→Value) (ts:List (Nat×Nat×Nat)) (M:List Az) (z:Nat):(Nat→Value)×List Az×Nat×List (Nat×Nat):=
 match Dx P n ops ts (Cm P n ops mem hints specs m E) M z with
 | some q=>q
 | none=>(E,[],0,[])
def I3 (P:Program) (n:Nat) (ops:Array Oper) (mem:List Az) (hints:List (Nat×Nat×Nat)) (specs:List Sp) (m:List Nat) (E:Nat→Value) (X:Nat→Value):List (List Value×List Value×Option (Option Value×List Nat)):=m.map (Lv P n ops mem hints specs m E X)
def Gv (P:Program) (n:Nat) (ops:Array Oper) (mem:List Az) (hints:List (Nat×Nat×Nat)) (specs:List Sp) (m:List Nat) (E:Nat→Value):List (List Value×List Value×Option (Option Value×List Nat)):=m.map (JT P n ops mem hints specs m E)
end
theorem RA {P:Program} {n:Nat} {ops:Array Oper} {Q:Exit→Act→World→Prop} {a:Array Bool} {E:Nat→Value} {w0 w w1:World} {M:List Az} {L T:List Th} (K:Wk w0 w M L T) (q0:Below w.heap.size w w1) {mem:List Az} (m:List Nat) (hints:List (Nat×Nat×Nat)) (specs:List Sp) (r:Nat)
  (hM:∀ e∈mem,e.good w) (hS:∀ sp∈specs,Eg P n (Below w.heap.size w) ops sp)
  (hok:(EZ .any ops (DC ops m) a n (D7 P n ops mem hints specs m E) && Gc ops (D7 P n ops mem hints specs m E))=true) (i0:m.all (Ed P n ops mem hints specs m E)=true)
  (hp:∀ X,I3 P n ops mem hints specs m E X=Gv P n ops mem hints specs m E)
  (hk:∀ u,Wk w0 u M L T→wpAny P .any ops Q r (m.foldl (fun b i=>b.setIfInBounds i true) a) (Fr n (Cm P n ops mem hints specs m E)) u):wpAny P .any ops Q (m.length + r) a (Fr n E) w1:=by
 have parts:∀ l:List Nat,(∀ i∈l,i∈m)→I9 P ops n E (DC ops m) (fun u=>Below w.heap.size w u) (fun _ _=>True) (D7 P n ops mem hints specs m E) (l.map fun i=>BV i (EL ops m i) (Da P n ops mem hints specs m E i)):=by
  intro l
  induction l with
  | nil=>intro _; trivial
  | cons i l ih=>
   intro hl
   refine ⟨⟨fun _ _ _ _ _ h=>h,fun vals u hu hb=>?_⟩,ih fun j hj=>hl j (by simp [hj])⟩
   have c0:=hl i (by simp)
   have hs:=List.all_eq_true.1 i0 i c0
   unfold Ed at hs
   rw [Bool.and_eq_true] at hs
   have o:Lv P n ops mem hints specs m E vals i=JT P n ops mem hints specs m E i:=by
    have h1:=hp vals
    unfold I3 Gv at h1
    exact (List.map_inj_left.1 h1) i c0
   unfold Lv JT at o
   simp only [Prod.mk.injEq] at o
   obtain ⟨hop,b0,c⟩:=o
   have hρ:∀ x∈(ops.getD i default).op.operands,C0 n E (DC ops m) vals x=Ax n (EP P n ops mem hints specs m E i) x:=fun x hx=>by
    have h2:MI P n ops mem hints specs m E vals i x=Ax n (EP P n ops mem hints specs m E i) x:=by
     have g0:x∈(ops.getD i default).op.operands.toList:=Array.mem_toList_iff.2 hx
     obtain ⟨k,q⟩:=List.mem_iff_getElem?.1 g0
     have h3:=congrArg (fun l=>l[k]?) hop
     simp only [List.getElem?_map,q,Option.map_some,Option.some.injEq] at h3
     exact h3
    rw [← h2]
    cases x with
    | tmp t=>
     unfold C0 MI
     cases hW:(DC ops m).of t with
     | none=>simp only [hW]
     | some j=>
      simp only [hW]
      cases hc:(EL ops m i).contains j with
      | false=>rfl
      | true=>
       have hj:j∈m:=by
        unfold Wr.of at hW
        obtain ⟨p,k0,j0⟩:=Option.map_eq_some_iff.1 hW
        have f:=List.mem_of_find?_eq_some k0
        unfold DC at f
        obtain ⟨k,n0,q⟩:=List.mem_filterMap.1 f
        obtain ⟨t',_,rfl⟩:=Option.map_eq_some_iff.1 q
        rw [← j0]
        exact n0
       exact IJ hb j hj hc
    | _=>rfl
   have s:∀ cs b,(ops.getD i default).op≠.select cs b:=fun cs b hh=>by
    have:=hs.1
    unfold JQ at this
    rw [hh] at this
    cases this
   show AM P (ops.getD i default) (C0 n E (DC ops m) vals) u _
   have p0:∀ K',AM P (ops.getD i default) (Ax n (EP P n ops mem hints specs m E i)) u K'→AM P (ops.getD i default) (C0 n E (DC ops m) vals) u K':=fun K' h=>by
    unfold AM at h ⊢
    rw [execOp_congr _ s hρ]
    exact h
   refine p0 _ ?_
   cases hsp:Gr specs i with
   | some sp=>
    rw [hsp] at b0 hs
    have f:=Ib hsp
    have hi:=f.2
    have z:=hS sp f.1 hs.2 (EP P n ops mem hints specs m E i) (IG b0) u hu
    rw [hi] at z
    refine AM.of_quiet z hu fun w' h0=>⟨h0,trivial,?_⟩
    show [Dw vals i sp.v i]=[Da P n ops mem hints specs m E i]
    unfold Dw Da Lu
    rw [hsp,if_pos rfl]
   | none=>
    rw [hsp] at c hs
    simp only at c hs
    obtain ⟨x,hx⟩:=Option.isSome_iff_exists.1 hs.2
    rw [hx] at c
    simp only [Option.map_some,Option.some.injEq,Prod.mk.injEq] at c
    obtain ⟨nx,e0⟩:=x
    have d:=c.1
    cases nx with
    | value v=>
     simp only [Do,Option.some.injEq] at d
     refine AM.reads ⟨0,mem,He hints i,[]⟩ (CB hM hu) v (hv:=by rw [hx]; rfl) (he:=by rw [hx]; exact congrArg some c.2) ⟨hu,trivial,?_⟩
     show [Dw vals i v i]=[Da P n ops mem hints specs m E i]
     unfold Dw
     rw [if_pos rfl,d]
    | skip=>
     simp only [Do,Option.some.injEq] at d
     have m0:(DO P (execOp (Ax n (EP P n ops mem hints specs m E i)) (ops.getD i default)) ⟨0,mem,He hints i,[]⟩)=some (.skip,e0):=hx
     have y:=Fb (w:=u) _ _ _ _ m0 (CB hM hu) (H1 c.2)
     unfold AM
     rw [y]
     refine ⟨hu,trivial,?_⟩
     show [Dw vals i undef i]=[Da P n ops mem hints specs m E i]
     unfold Dw
     rw [if_pos rfl,d]
    | enter _ _=>simp [Do] at d
    | _=>simp [Do] at d
 have a0:(D7 P n ops mem hints specs m E).length=m.length:=by unfold D7; rw [List.length_map]
 have g:(D7 P n ops mem hints specs m E).map (·.idx)=m:=by unfold D7; rw [List.map_map]; exact List.map_id _
 have l0:m.Nodup:=by
  have:=EY (by have h:=hok; rw [Bool.and_eq_true] at h; exact h.1)
  rw [← g]; exact this.nodup
 refine Dq (md:=.any) (fuel:=r) (L:=D7 P n ops mem hints specs m E) (W:=DC ops m) (C:=fun u=>Below w.heap.size w u) (Ext:=fun _ _=>True) (hok:=hok) q0 (fun _=>trivial) (fun _ _ _ _ _=>trivial) (parts m fun i hi=>hi) (by rw [a0]) fun vals u hu _ d0=>?_
 rw [g,L0 (mem:=mem) (hints:=hints) (specs:=specs) (P:=P) (n:=n) l0 (fun j hj=>Ir d0 j hj)]
 exact hk u (K.below hu)
theorem WW {P:Program} {f:FuncId} {R:Ending→World→Prop} {n:Nat} {todo:List Item} {E:Nat→Value} {w0 w:World} {M:List Az} {L T:List Th} (K:Wk w0 w M L T) {mem:List Az} (m:List Nat) (hints:List (Nat×Nat×Nat)) (specs:List Sp) (r:Nat)
  (hd:(Ek todo).isSome=true) (h:P.follows .mixedOrders=true) (p:∀ e∈mem,e.good w) (l:∀ sp∈specs,Eg P n (Below w.heap.size w) (AS todo) sp)
  (hok:(EZ .any (AS todo) (DC (AS todo) m) (Array.replicate (AS todo).size false) n (D7 P n (AS todo) mem hints specs m E) && Gc (AS todo) (D7 P n (AS todo) mem hints specs m E),m.all (Ed P n (AS todo) mem hints specs m E),Nat.beq (m.length + r) (AS todo).size)=(true,true,true))
  (k:∀ X,I3 P n (AS todo) mem hints specs m E X=Gv P n (AS todo) mem hints specs m E)
  (j:∀ u,Wk w0 u M L T→wpAny P .any (AS todo) (fun e a w=>e=.normal∧HM P f R (AL todo) a w) r (m.foldl (fun b i=>b.setIfInBounds i true) (Array.replicate (AS todo).size false)) (Fr n (Cm P n (AS todo) mem hints specs m E)) u):At P f R todo (Fr n E) w:=by
 obtain ⟨ops,c⟩:=Option.isSome_iff_exists.1 hd
 have hr:AS todo=ops:=by
  unfold Ek at c
  split at c
  ·obtain rfl:=Option.some.inj c; rfl
  ·cases c
 rw [hr] at hok k j l
 simp only [Prod.mk.injEq] at hok
 obtain ⟨hok,g,d⟩:=hok
 have o:m.length + r=ops.size:=Nat.eq_of_beq_eq_true d
 refine EV ops (hd:=c) (hm:=h) (m.length + r) (hs:=o.symm) ?_
 rw [← o] at hok j
 exact RA K (Below.refl _ _).drew m hints specs r p l hok g k j
theorem yy {P:Program} {f:FuncId} {R:Ending→World→Prop} {n:Nat} {todo:List Item} {E:Nat→Value} {w0 w:World} {M:List Az} {L T:List Th} (K:Wk w0 w M L T) {mem:List Az} (m:List Nat) (hints:List (Nat×Nat×Nat)) (specs:List Sp) (ts:List (Nat×Nat×Nat)) (M':Nat→List Az)
  (hd:(Ek todo).isSome=true) (l:P.follows .mixedOrders=true) (v:∀ e∈mem,e.good w) (t:∀ sp∈specs,Eg P n (Below w.heap.size w) (AS todo) sp)
  (hok:(EZ .any (AS todo) (DC (AS todo) m) (Array.replicate (AS todo).size false) n (D7 P n (AS todo) mem hints specs m E) && Gc (AS todo) (D7 P n (AS todo) mem hints specs m E),m.all (Ed P n (AS todo) mem hints specs m E),Nat.beq (m.length + ts.length) (AS todo).size,Iz (AS todo) .any (m.foldl (fun b i=>b.setIfInBounds i true) (Array.replicate (AS todo).size false)) (ts.map (·.1)))=(true,true,true,true))
  (r:∀ X,I3 P n (AS todo) mem hints specs m E X=Gv P n (AS todo) mem hints specs m E)
  (ht:∀ z,((Dx P n (AS todo) ts (Cm P n (AS todo) mem hints specs m E) M z).isSome,(BR P n (AS todo) mem hints specs m E ts M z).2.1,(BR P n (AS todo) mem hints specs m E ts M z).2.2.2.map Prod.fst)=(true,M' z,(BR P n (AS todo) mem hints specs m E ts M z).2.2.2.map Prod.snd))
  (s:∀ z w',Wk w0 w' (M' z) L T→At P f R (AL todo) (Fr n (BR P n (AS todo) mem hints specs m E ts M z).1) w'):At P f R todo (Fr n E) w:=by
 simp only [Prod.mk.injEq] at hok
 obtain ⟨h1,h2,y,k⟩:=hok
 refine WW K m hints specs ts.length hd l v t (by rw [h1,h2,y]) r fun u Ku=>?_
 have c:=ht u.heap.size
 simp only [Prod.mk.injEq] at c
 obtain ⟨j,g,d⟩:=c
 obtain ⟨q,o⟩:=Option.isSome_iff_exists.1 j
 have x:BR P n (AS todo) mem hints specs m E ts M u.heap.size=q:=by unfold BR; rw [o]
 have h:=s u.heap.size
 rw [x] at g d h
 exact KC (P:=P) (n:=n) (ops:=AS todo) (L:=L) (T:=T) (w0:=w0) (fuel:=0) (Q:=fun e a w=>e=.normal∧HM P f R (AL todo) a w) ts _ _ M u Ku u.heap.size rfl q o (H1 d) k fun w' a p ha=>⟨rfl,by rw [ha]; rw [g] at p; exact (h w' p).mid⟩
theorem Fk {P:Program} {f:FuncId} {R:Ending→World→Prop} {n:Nat} {todo:List Item} {E:Nat→Value} {w0 w:World} {M:List Az} {L T:List Th} (K:Wk w0 w M L T) {mem:List Az} (m:List Nat) (hints:List (Nat×Nat×Nat)) (specs:List Sp) (ts:List (Nat×Nat×Nat)) (d:∀ e∈mem,e.good w) (c:∀ sp∈specs,Eg P n (Below w.heap.size w) (AS todo) sp) (a:∀ z w',Wk w0 w' (BR P n (AS todo) mem hints specs m E ts M z).2.1 L T→At P f R (AL todo) (Fr n (BR P n (AS todo) mem hints specs m E ts M z).1) w') (hd:(Ek todo).isSome=true:=by kernel_rfl) (hmo:P.follows .mixedOrders=true:=by kernel_rfl) (hok:(EZ .any (AS todo) (DC (AS todo) m) (Array.replicate (AS todo).size false) n (D7 P n (AS todo) mem hints specs m E) && Gc (AS todo) (D7 P n (AS todo) mem hints specs m E),m.all (Ed P n (AS todo) mem hints specs m E),Nat.beq (m.length + ts.length) (AS todo).size,Iz (AS todo) .any (m.foldl (fun b i=>b.setIfInBounds i true) (Array.replicate (AS todo).size false)) (ts.map (·.1)))=(true,true,true,true):=by kernel_rfl) (hp:∀ X,I3 P n (AS todo) mem hints specs m E X=Gv P n (AS todo) mem hints specs m E:=by intro _; kernel_rfl) (ht:∀ z,((Dx P n (AS todo) ts (Cm P n (AS todo) mem hints specs m E) M z).isSome,(BR P n (AS todo) mem hints specs m E ts M z).2.1,(BR P n (AS todo) mem hints specs m E ts M z).2.2.2.map Prod.fst)=(true,(BR P n (AS todo) mem hints specs m E ts M z).2.1,(BR P n (AS todo) mem hints specs m E ts M z).2.2.2.map Prod.snd):=by intro _; kernel_rfl):At P f R todo (Fr n E) w:=yy K m hints specs ts (fun z=>(BR P n (AS todo) mem hints specs m E ts M z).2.1) hd hmo d c hok hp ht a
end
end Go.Proofs.YtkjbdagicjbjjaaGreat
namespace Go.Proofs.YtkjbdagicjbjjaaGreat
noncomputable section
open Go.RowKit
set_option maxRecDepth 100000
set_option maxHeartbeats 1000000
section
variable {P:Program} {o:Oper} {ρ:Operand→Value} {w:World}
theorem Hz {T T':TypeId} {x y:Operand} {a b:Nat} (hop:o.op=.binOp .quo T x y T') (hx:ρ x=.int .u64 a) (c:ρ y=.int .u64 b) (hb:0 < b) (ha:a≤18446744073709551615):(execOp ρ o).run P w=.ok (.value (.int .u64 ((a / b:Nat):Int))) w:=by
 unfold execOp
 simp [hop,hx,c,binOp,Op.intDiv,eqGuard]
 rw [if_neg (by omega),IntKind.wrap_u64]
 have d:a / b≤a:=Nat.div_le_self a b
 rw [show ((a:Int) / (b:Int))=((a / b:Nat):Int) by omega]
 generalize a / b=q at d
 rw [show ((q:Int) % 18446744073709551616)=(q:Int) by omega]
end
def Mp (neg:Bool) (n d:Nat):Int×Int×Int:=cond (decide (1000000000000 < n / Nat.gcd n d) || decide (1000000 < d / Nat.gcd n d)) (0,0,4) (cond neg (-((n / Nat.gcd n d:Nat):Int)) ((n / Nat.gcd n d:Nat):Int),((d / Nat.gcd n d:Nat):Int),0)
abbrev DB (r:Int×Int×Int):Value:=.tuple #[.agg ⟨[AI r.1,AI r.2.1]⟩,AI r.2.2]
noncomputable def YH:Code:=Tryz.f98.body.getD .skip
def pU:=AA 60 [.code YH]
def pT:=Ai 2 (AC pU)
def pS:=Ai 3 (AL pT)
def Zj:=AA 60 (AL pS)
def AAW:=AA 60 (AD Zj)
def Zi:=AA 60 (AF Zj)
def AAV:=AA 60 (AD Zi)
def AAU:=AA 60 (AF Zi)
theorem Vx (neg:Bool) (n d:Nat) (w:World) (hn:n≤18446744073709551615) (hd:d≤18446744073709551615) (z:0 < d):Calls Tryz.prog 98 ([.bool neg,.int .u64 (n:Int),.int .u64 (d:Int)]:List Value).toArray w fun e w'=>e=.returned (DB (Mp neg n d))∧Below w.heap.size w w':=by
 refine AR (args:=[.bool neg,.int .u64 (n:Int),.int .u64 (d:Int)]) (fn:=Tryz.f98) (c:=YH) (n:=35) ?_
 have K1:=Wk.start w
 refine Af pU [⟨w.heap.size,0,[AI 0,AI 0],41,true⟩] K1 [] fun q K2=>?_
 refine A7 (NQ n d q hn hd) fun en w2 v=>?_
 obtain ⟨rfl,k,rfl⟩:=v
 refine ⟨_,rfl,?_⟩
 have hg:0 < Nat.gcd n d:=Nat.gcd_pos_of_pos_right _ z
 unfold Mp
 generalize Nat.gcd n d=g at hg ⊢
 have K3:=K2.below (Fi (Below.refl _ _) k)
 refine Am 2 pT K3 [] fun w3 m=>?_
 refine Ap m [] [⟨2,[(13,.int .u64 (n:Int)),(14,.int .u64 (g:Int))],.int .u64 ((n / g:Nat):Int),true⟩,⟨5,[(16,.int .u64 (d:Int)),(17,.int .u64 (g:Int))],.int .u64 ((d / g:Nat):Int),true⟩] m.G (fun r a=>?_) fun w4 E4 K5=>?_
 ·rcases List.mem_cons.1 a with rfl | a
  ·exact BG fun _ E u _=>Hz (T:=164) (T':=164) (x:=.tmp 13) (y:=.tmp 14) (by kernel_rfl) (by kernel_rfl) (by kernel_rfl) hg hn
  ·obtain rfl:=List.mem_singleton.1 a
   exact BG fun _ E u _=>Hz (T:=164) (T':=164) (x:=.tmp 16) (y:=.tmp 17) (by kernel_rfl) (by kernel_rfl) (by kernel_rfl) hg hd
 have t:n / g≤n:=Nat.div_le_self n g
 have s:d / g≤d:=Nat.div_le_self d g
 generalize n / g=x at *
 generalize d / g=y at *
 refine Am 3 pS K5 [] fun w5 l=>?_
 refine Ap l [] [] l.G (fun r a=>by cases a) fun w6 E6 K7=>?_
 refine AB Zj K7 [] fun w7 j=>?_
 refine AG (cond (decide (1000000000000 < (x:Int))) true (decide (1000000 < (y:Int)))) (fun i=>?_) (fun i=>?_)
 ·refine AB AAW j [(0,0)] fun p f=>?_
  have hc:(decide (1000000000000 < x) || decide (1000000 < y))=true:=by simp at i ⊢; omega
  exact AJ f (0,0) (.tuple #[.agg ⟨[AI 0,AI 0]⟩,AI 4]) ⟨by rw [hc]; rfl,f.B⟩
 ·have hx:x≤1000000000000∧y≤1000000:=by simp at i; omega
  have hc:(decide (1000000000000 < x) || decide (1000000 < y))=false:=by simp; omega
  refine AB Zi j [] fun p f=>?_
  refine AG neg (fun h=>?_) (fun h=>?_)
  ·refine Aj AAV f [(0,0)] fun o b=>?_
   refine AJ b (0,0) (.tuple #[.agg ⟨[AI (IntKind.i64.wrap (0 - IntKind.i64.wrap (x:Int))),AI (IntKind.i64.wrap (y:Int))]⟩,AI 0]) ⟨?_,b.B⟩
   rw [IntWalk.i64_in (x:Int) (by omega),IntWalk.i64_in (0 - (x:Int)) (by omega),Int.zero_sub,IntWalk.i64_in (y:Int) (by omega),hc,h]
   rfl
  ·refine Aj AAU f [(0,0)] fun o b=>?_
   refine AJ b (0,0) (.tuple #[.agg ⟨[AI (IntKind.i64.wrap (x:Int)),AI (IntKind.i64.wrap (y:Int))]⟩,AI 0]) ⟨?_,b.B⟩
   rw [IntWalk.i64_in (x:Int) (by omega),IntWalk.i64_in (y:Int) (by omega),hc,h]
   rfl
noncomputable def YF:Code:=Tryz.f95.body.getD .skip
def Zh:=AA 60 [.code YF]
def AAS:=AA 60 (AD Zh)
def AAR:=AA 60 (AF Zh)
theorem Ig (n:Int) (w:World) (j:-9223372036854775808≤n) (i:n≤9223372036854775807):Calls Tryz.prog 95 ([AI n]:List Value).toArray w fun e w'=>e=.returned (.int .u64 (n.natAbs:Nat))∧Below w.heap.size w w':=by
 refine AR (args:=[AI n]) (fn:=Tryz.f95) (c:=YF) (n:=10) ?_
 have g:=Wk.start w
 refine AB Zh g [] fun h d=>?_
 refine AG (decide (n < 0)) (fun b=>?_) (fun b=>?_)
 ·have hn:n < 0:=of_decide_eq_true b
  refine AB AAS d [] fun f a=>?_
  refine AJ a (0,0) (.int .u64 (IntKind.u64.wrap (0 - IntKind.u64.wrap n))) ⟨?_,a.B⟩
  simp only [IntKind.wrap_u64]
  congr 2
  omega
 ·have hn:¬ n < 0:=of_decide_eq_false b
  refine AB AAR d [] fun f a=>?_
  refine AJ a (0,0) (.int .u64 (IntKind.u64.wrap n)) ⟨?_,a.B⟩
  simp only [IntKind.wrap_u64]
  congr 2
  omega
def Lk (n d:Int):Int×Int×Int:=cond (d == 0) (0,0,5) (Mp (decide (n < 0) != decide (d < 0)) n.natAbs d.natAbs)
noncomputable def X8:Code:=Tryz.f66.body.getD .skip
def ZV:=AA 60 [.code X8]
def AAA:=AA 60 (AD ZV)
def pB:=AA 60 (AF ZV)
def o8:=AA 60 (AC pB)
def o7:=AA 60 (AC o8)
def z8:=AA 60 (AC o7)
theorem OE (n d:Int) (w:World) (m:-9223372036854775808≤n) (l:n≤9223372036854775807) (h2:-9223372036854775808≤d) (k:d≤9223372036854775807):Calls Tryz.prog 66 ([AI n,AI d]:List Value).toArray w fun e w'=>e=.returned (DB (Lk n d))∧Below w.heap.size w w':=by
 refine AR (args:=[AI n,AI d]) (fn:=Tryz.f66) (c:=X8) (n:=21) ?_
 have t:=Wk.start w
 refine Af ZV [⟨w.heap.size,0,[AI 0,AI 0],41,true⟩] t [] fun z h=>?_
 unfold Lk
 refine AG (d == 0) (fun a=>?_) (fun a=>?_)
 ·refine AB AAA h [(0,0)] fun f b=>?_
  exact AJ b (0,0) (.tuple #[.agg ⟨[AI 0,AI 0]⟩,AI 5]) ⟨by rw [a]; rfl,b.B⟩
 ·have hd:d≠0:=by simpa using a
  refine AB pB h [] fun f b=>?_
  refine AQ b (Ig n f m l) fun y s=>?_
  refine AB o8 s [] fun j r=>?_
  refine AQ r (Ig d j h2 k) fun x q=>?_
  refine AB o7 q [] fun i p=>?_
  refine AQ p (Vx (decide (n < 0) != decide (d < 0)) n.natAbs d.natAbs i (by omega) (by omega) (by omega)) fun v o=>?_
  refine Aj z8 o [(0,0)] fun u g=>?_
  exact AJ g (0,0) (DB (Mp (decide (n < 0) != decide (d < 0)) n.natAbs d.natAbs)) ⟨by rw [a]; rfl,g.B⟩
end
end Go.Proofs.YtkjbdagicjbjjaaGreat

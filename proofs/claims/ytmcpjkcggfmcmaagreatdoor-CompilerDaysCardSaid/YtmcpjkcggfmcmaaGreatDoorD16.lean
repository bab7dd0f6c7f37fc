/-
  Part 16 of a proof: contracts of functions.
-/
import Derived.Test.YtmcpjkcggfmcmaaGreatDoorD15
set_option linter.all false
namespace Go.Proofs.YtmcpjkcggfmcmaaGreatDoor
noncomputable section
open Go.RowKit
set_option maxRecDepth 100000
section
variable (P:Program) (n:Nat) (ops:Array Oper) (mem:List BI) (hints:List (Nat×Nat×Nat)) (specs:List Sp)
def NK (hints:List (Nat×Nat×Nat)) (i:Nat):Nat×Nat:=match hints.find? (fun p=>p.1 == i) with
 | some p=>p.2
 | none=>(0,0)
def SL (G:Nat→Value) (i:Nat):Value:=match I0 specs i with
 | some sp=>sp.v
 | none=>match (Dn P (execOp (BN n G) (ops.getD i default)) ⟨0,mem,NK hints i,[]⟩).bind (fun r=>Ie r.1) with
  | some v=>v
  | none=>undef
def Jm:List Nat→(Nat→Value)→Nat→Value
 | [],G=>G
 | i :: r,G=>Jm r (Bc G (D9 ops i) (SL P n ops mem hints specs G i))
def SR (i:Nat):List Nat→List Nat
 | []=>[]
 | j :: r=>match Nat.beq j i with
  | true=>[]
  | false=>j :: SR i r
def MG (m:List Nat) (E:Nat→Value) (i:Nat):Nat→Value:=Jm P n ops mem hints specs (SR i m) E
def Jl (m:List Nat) (E:Nat→Value) (i:Nat):Value:=SL P n ops mem hints specs (MG P n ops mem hints specs m E i) i
def LJ (m:List Nat):Wr:=m.filterMap fun i=>(D9 ops i).map fun t=>(t,i)
def iS (m:List Nat) (i:Nat):List Nat:=((ops.getD i default).looksAt ops).filterMap (LJ ops m).of
def rO (m:List Nat):Nat→Nat→List Nat
 | 0,i=>iS ops m i
 | k + 1,i=>iS ops m i++(iS ops m i).flatMap (rO m k)
def UQ (m:List Nat) (i:Nat):List Nat:=rO ops m 5 i
def KY (m:List Nat) (E:Nat→Value):List Ci:=m.map fun i=>AN i (UQ ops m i) (Jl P n ops mem hints specs m E i)
def rN (m:List Nat) (E:Nat→Value) (X:Nat→Value) (i:Nat):Operand→Value
 | .tmp t=>match (LJ ops m).of t with
  | some j=>match (UQ ops m i).contains j with
   | true=>Jl P n ops mem hints specs m E j
   | false=>X j
  | none=>BN n E (.tmp t)
 | x=>BN n E x
def lr (o:Oper):Bool:=match o.op with
 | .select _ _=>false
 | _=>true
def iR (m:List Nat) (E:Nat→Value) (X:Nat→Value) (i:Nat):List Value×List Value×Option (Option Value×List Nat):=
 ((ops.getD i default).op.operands.toList.map (rN P n ops mem hints specs m E X i),match I0 specs i with
  | some sp=>sp.l.map fun p=>BN n (MG P n ops mem hints specs m E i) (.tmp p.1)
  | none=>[],match I0 specs i with
  | some _=>none
  | none=>(Dn P (execOp (BN n (MG P n ops mem hints specs m E i)) (ops.getD i default)) ⟨0,mem,NK hints i,[]⟩).map fun r=>(Ie r.1,r.2.eqs.map Prod.fst))
def ZD (m:List Nat) (E:Nat→Value) (i:Nat):List Value×List Value×Option (Option Value×List Nat):=
 ((ops.getD i default).op.operands.toList.map (BN n (MG P n ops mem hints specs m E i)),match I0 specs i with
  | some sp=>sp.l.map (·.2)
  | none=>[],match I0 specs i with
  | some _=>none
  | none=>(Dn P (execOp (BN n (MG P n ops mem hints specs m E i)) (ops.getD i default)) ⟨0,mem,NK hints i,[]⟩).map fun r=>(some (Jl P n ops mem hints specs m E i),r.2.eqs.map Prod.snd))
def Mv (m:List Nat) (E:Nat→Value) (i:Nat):Bool:=lr (ops.getD i default) && match I0 specs i with
 | some sp=>sp.cond
 | none=>(Dn P (execOp (BN n (MG P n ops mem hints specs m E i)) (ops.getD i default)) ⟨0,mem,NK hints i,[]⟩).isSome
def UP:List (Nat×Nat×Nat)→(Nat→Value)→List BI→Nat→Option ((Nat→Value)×List BI×Nat×List (Nat×Nat))
 | [],E,M,z=>some (E,M,z,[])
 | p :: r,E,M,z=>match CS P (execOp (BN n E) (ops.getD p.1 default)) ⟨z,M,p.2,[]⟩ with
  | some (nx,ms')=>match Ie nx,ms'.mem.all (·.own) with
   | some v,true=>match UP r (Bc E (ops.getD p.1 default).dst v) ms'.mem ms'.sz with
    | some q=>some (q.1,q.2.1,q.2.2.1,ms'.eqs++q.2.2.2)
    | none=>none
   | _,_=>none
  | none=>none
def Mf (md:Region.Mode):Array Bool→List Nat→Bool
 | listed,[]=>(Region.ready md ops listed).isEmpty
 | listed,i :: r=>(Region.ready md ops listed == [i]) && ((ops.getD i default).guard.isNone && (Nat.blt i ops.size && Mf md (listed.setIfInBounds i true) r))
end
section
variable {P:Program} {n:Nat} {ops:Array Oper} {mem:List BI} {hints:List (Nat×Nat×Nat)} {specs:List Sp}
theorem Mo {ρ:Operand→Value}:∀ {l:List (Tmp×Value)},l.map (fun p=>ρ (.tmp p.1))=l.map (·.2)→Gy ρ l
 | [],_=>trivial
 | p :: l,h=>⟨(List.cons.inj h).1,Mo (List.cons.inj h).2⟩
theorem AH.of_quiet {o:Oper} {ρ:Operand→Value} {w:World} {C:World→Prop} {v:Value} {K:Value→World→Prop} (h:Oper.quietUpon P C w v ((execOp ρ o).run P w)) (hc:C w) (b:∀ w',C w'→K v w'):AH P o ρ w K:=by
 unfold AH
 unfold Oper.quietUpon at h
 split at h
 ·rename_i u w' he; obtain ⟨rfl,rfl⟩:=h; rw [he]; exact b _ hc
 ·rename_i w' he; obtain ⟨rfl,rfl⟩:=h; rw [he]; exact b _ hc
 ·rename_i g args w' he
  obtain ⟨rfl,h⟩:=h
  rw [he]
  exact h.mono fun e a ⟨c,h2⟩=>⟨v,c,b a h2⟩
 ·exact h.elim
theorem Lw {m:List Nat} {E:Nat→Value} {a:Nat→Value} {u:World} {B:List Nat}:∀ {l:List Nat},HL B a u (l.map fun i=>AN i (UQ ops m i) (Jl P n ops mem hints specs m E i))→∀ j∈l,B.contains j=true→a j=Jl P n ops mem hints specs m E j
 | [],_,_,h,_=>by cases h
 | i :: l,hb,j,b,hB=>by
  rw [List.map_cons] at hb
  unfold HL at hb
  rcases List.mem_cons.1 b with rfl | b
  ·rw [show (AN j (UQ ops m j) (Jl P n ops mem hints specs m E j)).idx=j from rfl,hB] at hb
   exact (List.cons.inj hb.1).1
  ·split at hb
   ·exact Lw hb.2 j b hB
   ·exact Lw hb j b hB
theorem Nu {m:List Nat} {E:Nat→Value} {a:Nat→Value} {u:World}:∀ {l:List Nat},I7 a u (l.map fun i=>AN i (UQ ops m i) (Jl P n ops mem hints specs m E i))→∀ j∈l,a j=Jl P n ops mem hints specs m E j
 | [],_,_,h=>by cases h
 | i :: l,hb,j,b=>by
  rw [List.map_cons] at hb
  unfold I7 at hb
  rcases List.mem_cons.1 b with rfl | b
  ·exact (List.cons.inj hb.1).1
  ·exact Nu hb.2 j b
theorem SQ {i:Nat}:∀ {B C:List Nat},i∉B→SR i (B++i :: C)=B
 | [],C,_=>by
  show (match Nat.beq i i with | true=>[] | false=>i :: SR i C)=[]
  rw [Nat.beq_refl]
 | j :: B,C,h=>by
  have a:Nat.beq j i=false:=by
   cases hb:Nat.beq j i with
   | false=>rfl
   | true=>exact absurd (by rw [Nat.eq_of_beq_eq_true hb]; simp) h
  rw [List.cons_append]
  unfold SR
  rw [a,SQ (fun hm=>h (by simp [hm]))]
theorem iW {m:List Nat} {E:Nat→Value} {a:Nat→Value} (hn:m.Nodup) (hv:∀ j∈m,a j=Jl P n ops mem hints specs m E j):Eu ops a m E=Jm P n ops mem hints specs m E:=by
 have go:∀ (C B:List Nat),B++C=m→C.foldl (fun E i=>Bc E (D9 ops i) (a i)) (Jm P n ops mem hints specs B E)=Jm P n ops mem hints specs m E:=by
  intro C
  induction C with
  | nil=>intro B c; rw [List.append_nil] at c; rw [c]; rfl
  | cons i C ih=>
   intro B c
   have hi:i∈m:=by rw [← c]; simp
   have d:i∉B:=fun hb=>by
    rw [← c,List.nodup_append] at hn
    exact hn.2.2 i hb i (by simp) rfl
   rw [List.foldl_cons,hv i hi]
   have h2:Jm P n ops mem hints specs (B++[i]) E=Bc (Jm P n ops mem hints specs B E) (D9 ops i) (Jl P n ops mem hints specs m E i):=by
    have b:∀ (B:List Nat) (G:Nat→Value),Jm P n ops mem hints specs (B++[i]) G=Bc (Jm P n ops mem hints specs B G) (D9 ops i) (SL P n ops mem hints specs (Jm P n ops mem hints specs B G) i):=by
     intro B
     induction B with
     | nil=>intro G; rfl
     | cons j B ihb=>intro G; exact ihb _
    rw [b]
    unfold Jl MG
    rw [← c,SQ d]
   rw [← h2]
   exact ih (B++[i]) (by rw [List.append_assoc]; exact c)
 exact go m [] rfl
theorem U7 {Q:Exit→Act→World→Prop} {w0:World} {L T:List Th} {fuel:Nat}:∀ (l:List (Nat×Nat×Nat)) (b:Array Bool) (E:Nat→Value) (M:List BI) (w:World) (K:Wk w0 w M L T) (z:Nat) (_:w.heap.size=z) (q:(Nat→Value)×List BI×Nat×List (Nat×Nat)),
  UP P n ops l E M z=some q→(∀ p∈q.2.2.2,p.1=p.2)→Mf ops .any b (l.map (·.1))=true→(∀ w' a,Wk w0 w' q.2.1 L T→a=Fr n q.1→Q .normal a w')→wpAny P .any ops Q (l.length + fuel) b (Fr n E) w
 | [],b,E,M,w,K,z,_,q,hq,_,hr,hk=>by
  obtain rfl:=Option.some.inj hq
  exact Cy (hr:=(List.isEmpty_iff.1 hr)) (hk w _ K rfl)
 | p :: r,b,E,M,w,K,z,hz,q,hq,he,hr,hk=>by
  subst hz
  rw [List.map_cons] at hr
  unfold Mf at hr
  rw [Bool.and_eq_true,Bool.and_eq_true,Bool.and_eq_true] at hr
  obtain ⟨k,h2,s,o⟩:=hr
  have k:=eq_of_beq k
  have i:p.1 < ops.size:=Nat.le_of_ble_eq_true s
  have ho:ops[p.1]?=some (ops.getD p.1 default):=by simp [Array.getD,i]
  unfold UP at hq
  cases hm:CS P (execOp (BN n E) (ops.getD p.1 default)) ⟨w.heap.size,M,p.2,[]⟩ with
  | none=>rw [hm] at hq; cases hq
  | some x=>
   obtain ⟨f,c⟩:=x
   rw [hm] at hq
   simp only at hq
   split at hq
   ·rename_i v hv hown
    cases hg:UP P n ops r (Bc E (ops.getD p.1 default).dst v) c.mem c.sz with
    | none=>rw [hg] at hq; cases hq
    | some q'=>
     rw [hg] at hq
     obtain rfl:=Option.some.inj hq
     have j:c.eqs.map Prod.fst=c.eqs.map Prod.snd:=List.map_congr_left fun y g=>he y (List.mem_append_left _ g)
     rw [show (p :: r).length + fuel=(r.length + fuel) + 1 by simp; omega]
     have d:DH (M.map (·.id)) w.heap.size w ⟨w.heap.size,M,p.2,[]⟩:=by
      have:=K.H.lies
      exact ⟨this.sat,this.le,this.own⟩
     have h:f=.value v∨(f=.skip∧v=undef):=by
      cases f <;> simp [Ie] at hv
      ·exact .inl (by rw [hv])
      ·exact .inr ⟨rfl,hv.symm⟩
     refine FL (ops.getD p.1 default) ⟨w.heap.size,M,p.2,[]⟩ c f v k (ho:=ho) (hg:=by simpa using h2) (hm:=hm) h d j fun w' e m=>?_
     have t:Wk w0 w' c.mem L T:=⟨K.B.trans (K.H.keptB m),K.H.run e m hown⟩
     exact U7 r _ _ _ w' t c.sz e.sat.size q' hg (fun y g=>he y (List.mem_append_right _ g)) o hk
   ·cases hq
theorem Vw {l:List (Nat×Nat)} (h:l.map Prod.fst=l.map Prod.snd):∀ p∈l,p.1=p.2:=fun p b=>by
 obtain ⟨i,hi⟩:=List.mem_iff_getElem?.1 b
 have a:(l.map Prod.fst)[i]?=some p.1:=by rw [List.getElem?_map,hi]; rfl
 have h2:(l.map Prod.snd)[i]?=some p.2:=by rw [List.getElem?_map,hi]; rfl
 rw [h,h2] at a
 exact (Option.some.inj a).symm
def CT (P:Program) (n:Nat) (ops:Array Oper) (mem:List BI) (hints:List (Nat×Nat×Nat)) (specs:List Sp) (m:List Nat) (E:Nat→Value) (ts:List (Nat×Nat×Nat)) (M:List BI) (z:Nat):(Nat→Value)×List BI×Nat×List (Nat×Nat):=
 match UP P n ops ts (Jm P n ops mem hints specs m E) M z with
 | some q=>q
 | none=>(E,[],0,[])
def cP (P:Program) (n:Nat) (ops:Array Oper) (mem:List BI) (hints:List (Nat×Nat×Nat)) (specs:List Sp) (m:List Nat) (E:Nat→Value) (X:Nat→Value):List (List Value×List Value×Option (Option Value×List Nat)):=m.map (iR P n ops mem hints specs m E X)
def UR (P:Program) (n:Nat) (ops:Array Oper) (mem:List BI) (hints:List (Nat×Nat×Nat)) (specs:List Sp) (m:List Nat) (E:Nat→Value):List (List Value×List Value×Option (Option Value×List Nat)):=m.map (ZD P n ops mem hints specs m E)
end
theorem d4 {P:Program} {f:FuncId} {R:Ending→World→Prop} {n:Nat} {todo:List Item} {E:Nat→Value} {w0 w:World} {M:List BI} {L T:List Th} (K:Wk w0 w M L T) {mem:List BI} (m:List Nat) (hints:List (Nat×Nat×Nat)) (specs:List Sp) (r:Nat)
  (hd:(Fc todo).isSome=true) (y0:P.follows .mixedOrders=true) (hM:∀ e∈mem,e.good w) (hS:∀ sp∈specs,Hb P n (Below w.heap.size w) (BR todo) sp)
  (hok:(EY .any (BR todo) (LJ (BR todo) m) (Array.replicate (BR todo).size false) n (KY P n (BR todo) mem hints specs m E) && bare (BR todo) (KY P n (BR todo) mem hints specs m E),m.all (Mv P n (BR todo) mem hints specs m E),Nat.beq (m.length + r) (BR todo).size)=(true,true,true))
  (hp:∀ X,cP P n (BR todo) mem hints specs m E X=UR P n (BR todo) mem hints specs m E)
  (hk:∀ u,Wk w0 u M L T→wpAny P .any (BR todo) (fun e a w=>e=.normal∧JZ P f R (AP todo) a w) r (m.foldl (fun b i=>b.setIfInBounds i true) (Array.replicate (BR todo).size false)) (Fr n (Jm P n (BR todo) mem hints specs m E)) u):At P f R todo (Fr n E) w:=by
 obtain ⟨ops,o⟩:=Option.isSome_iff_exists.1 hd
 have hr:BR todo=ops:=by
  unfold Fc at o
  split at o
  ·obtain rfl:=Option.some.inj o; rfl
  ·cases o
 rw [hr] at hok hp hk hS
 simp only [Prod.mk.injEq] at hok
 obtain ⟨hok,r0,q0⟩:=hok
 have hN:m.length + r=ops.size:=Nat.eq_of_beq_eq_true q0
 refine C4 ops (hd:=o) (hm:=y0) (m.length + r) (hs:=hN.symm) ?_
 rw [hN]
 have parts:∀ l:List Nat,(∀ i∈l,i∈m)→GW P ops n E (LJ ops m) (fun u=>Below w.heap.size w u) (fun _ _=>True) (KY P n ops mem hints specs m E) (l.map fun i=>AN i (UQ ops m i) (Jl P n ops mem hints specs m E i)):=by
  intro l
  induction l with
  | nil=>intro _; trivial
  | cons i l ih=>
   intro hl
   refine ⟨⟨fun _ _ _ _ _ h=>h,fun c u hu hb=>?_⟩,ih fun j hj=>hl j (by simp [hj])⟩
   have f0:=hl i (by simp)
   have hs:=List.all_eq_true.1 r0 i f0
   unfold Mv at hs
   rw [Bool.and_eq_true] at hs
   have y:iR P n ops mem hints specs m E c i=ZD P n ops mem hints specs m E i:=by
    have h1:=hp c
    unfold cP UR at h1
    exact (List.map_inj_left.1 h1) i f0
   unfold iR ZD at y
   simp only [Prod.mk.injEq] at y
   obtain ⟨hop,e0,d⟩:=y
   let z1:=MG P n ops mem hints specs m E i
   have hρ:∀ x∈(ops.getD i default).op.operands,C0 n E (LJ ops m) c x=BN n z1 x:=fun x hx=>by
    have h2:rN P n ops mem hints specs m E c i x=BN n z1 x:=by
     have k0:x∈(ops.getD i default).op.operands.toList:=Array.mem_toList_iff.2 hx
     obtain ⟨k,z⟩:=List.mem_iff_getElem?.1 k0
     have h3:=congrArg (fun l=>l[k]?) hop
     simp only [List.getElem?_map,z,Option.map_some,Option.some.injEq] at h3
     exact h3
    rw [← h2]
    cases x with
    | tmp t=>
     unfold C0 rN
     cases hW:(LJ ops m).of t with
     | none=>simp only [hW]
     | some j=>
      simp only [hW]
      cases hc:(UQ ops m i).contains j with
      | false=>rfl
      | true=>
       have hj:j∈m:=by
        unfold Wr.of at hW
        obtain ⟨p,v0,t0⟩:=Option.map_eq_some_iff.1 hW
        have q:=List.mem_of_find?_eq_some v0
        unfold LJ at q
        obtain ⟨k,a1,z⟩:=List.mem_filterMap.1 q
        obtain ⟨t',_,rfl⟩:=Option.map_eq_some_iff.1 z
        rw [← t0]
        exact a1
       exact Lw hb j hj hc
    | _=>rfl
   have a0:∀ cs b,(ops.getD i default).op≠.select cs b:=fun cs b hh=>by
    have:=hs.1
    unfold lr at this
    rw [hh] at this
    cases this
   show AH P (ops.getD i default) (C0 n E (LJ ops m) c) u _
   have b1:∀ K',AH P (ops.getD i default) (BN n z1) u K'→AH P (ops.getD i default) (C0 n E (LJ ops m) c) u K':=fun K' h=>by
    unfold AH at h ⊢
    rw [execOp_congr _ a0 hρ]
    exact h
   refine b1 _ ?_
   cases hsp:I0 specs i with
   | some sp=>
    rw [hsp] at e0 hs
    have q:=Lb hsp
    have hi:=q.2
    have c0:=hS sp q.1 hs.2 z1 (Mo e0) u hu
    rw [hi] at c0
    refine AH.of_quiet c0 hu fun w' p0=>⟨p0,trivial,?_⟩
    show [FR c i sp.v i]=[Jl P n ops mem hints specs m E i]
    unfold FR Jl SL
    rw [hsp,if_pos rfl]
   | none=>
    rw [hsp] at d hs
    simp only at d hs
    obtain ⟨x,hx⟩:=Option.isSome_iff_exists.1 hs.2
    rw [hx] at d
    simp only [Option.map_some,Option.some.injEq,Prod.mk.injEq] at d
    obtain ⟨nx,i0⟩:=x
    have g:=d.1
    cases nx with
    | value v=>
     simp only [Ie,Option.some.injEq] at g
     refine AH.reads ⟨0,mem,NK hints i,[]⟩ (Az hM hu) v (hv:=by rw [hx]; rfl) (he:=by rw [hx]; exact congrArg some d.2) ⟨hu,trivial,?_⟩
     show [FR c i v i]=[Jl P n ops mem hints specs m E i]
     unfold FR
     rw [if_pos rfl,g]
    | skip=>
     simp only [Ie,Option.some.injEq] at g
     have z0:(Dn P (execOp (BN n z1) (ops.getD i default)) ⟨0,mem,NK hints i,[]⟩)=some (.skip,i0):=hx
     have b0:=Ij (w:=u) _ _ _ _ z0 (Az hM hu) (Vw d.2)
     unfold AH
     rw [b0]
     refine ⟨hu,trivial,?_⟩
     show [FR c i undef i]=[Jl P n ops mem hints specs m E i]
     unfold FR
     rw [if_pos rfl,g]
    | enter _ _=>simp [Ie] at g
    | _=>simp [Ie] at g
 have d0:(KY P n ops mem hints specs m E).length=m.length:=by unfold KY; rw [List.length_map]
 have s:(KY P n ops mem hints specs m E).map (·.idx)=m:=by unfold KY; rw [List.map_map]; exact List.map_id _
 have x0:m.Nodup:=by
  have:=JI (by have h:=hok; rw [Bool.and_eq_true] at h; exact h.1)
  rw [← s]; exact this.nodup
 refine CG (md:=.any) (fuel:=r) (L:=KY P n ops mem hints specs m E) (W:=LJ ops m) (C:=fun u=>Below w.heap.size w u) (Ext:=fun _ _=>True) (hok:=hok) (Below.refl _ _).drew (fun _=>trivial) (fun _ _ _ _ _=>trivial) (parts m fun i hi=>hi) (by rw [d0,hN]) fun c u hu _ h0=>?_
 rw [s,iW (mem:=mem) (hints:=hints) (specs:=specs) (P:=P) (n:=n) x0 (fun j hj=>Nu h0 j hj)]
 exact hk u (K.below hu)
theorem rT {P:Program} {f:FuncId} {R:Ending→World→Prop} {n:Nat} {todo:List Item} {E:Nat→Value} {w0 w:World} {M:List BI} {L T:List Th} (K:Wk w0 w M L T) {mem:List BI} (m:List Nat) (hints:List (Nat×Nat×Nat)) (specs:List Sp) (ts:List (Nat×Nat×Nat)) (M':Nat→List BI)
  (hd:(Fc todo).isSome=true) (l:P.follows .mixedOrders=true) (v:∀ e∈mem,e.good w) (t:∀ sp∈specs,Hb P n (Below w.heap.size w) (BR todo) sp)
  (hok:(EY .any (BR todo) (LJ (BR todo) m) (Array.replicate (BR todo).size false) n (KY P n (BR todo) mem hints specs m E) && bare (BR todo) (KY P n (BR todo) mem hints specs m E),m.all (Mv P n (BR todo) mem hints specs m E),Nat.beq (m.length + ts.length) (BR todo).size,Mf (BR todo) .any (m.foldl (fun b i=>b.setIfInBounds i true) (Array.replicate (BR todo).size false)) (ts.map (·.1)))=(true,true,true,true))
  (r:∀ X,cP P n (BR todo) mem hints specs m E X=UR P n (BR todo) mem hints specs m E)
  (ht:∀ z,((UP P n (BR todo) ts (Jm P n (BR todo) mem hints specs m E) M z).isSome,(CT P n (BR todo) mem hints specs m E ts M z).2.1,(CT P n (BR todo) mem hints specs m E ts M z).2.2.2.map Prod.fst)=(true,M' z,(CT P n (BR todo) mem hints specs m E ts M z).2.2.2.map Prod.snd))
  (s:∀ z w',Wk w0 w' (M' z) L T→At P f R (AP todo) (Fr n (CT P n (BR todo) mem hints specs m E ts M z).1) w'):At P f R todo (Fr n E) w:=by
 simp only [Prod.mk.injEq] at hok
 obtain ⟨h1,h2,y,k⟩:=hok
 refine d4 K m hints specs ts.length hd l v t (by rw [h1,h2,y]) r fun u Ku=>?_
 have c:=ht u.heap.size
 simp only [Prod.mk.injEq] at c
 obtain ⟨j,g,d⟩:=c
 obtain ⟨q,o⟩:=Option.isSome_iff_exists.1 j
 have x:CT P n (BR todo) mem hints specs m E ts M u.heap.size=q:=by unfold CT; rw [o]
 have h:=s u.heap.size
 rw [x] at g d h
 exact U7 (P:=P) (n:=n) (ops:=BR todo) (L:=L) (T:=T) (w0:=w0) (fuel:=0) (Q:=fun e a w=>e=.normal∧JZ P f R (AP todo) a w) ts _ _ M u Ku u.heap.size rfl q o (Vw d) k fun w' a p ha=>⟨rfl,by rw [ha]; rw [g] at p; exact (h w' p).mid⟩
theorem JX {P:Program} {f:FuncId} {R:Ending→World→Prop} {n:Nat} {todo:List Item} {E:Nat→Value} {w0 w:World} {M:List BI} {L T:List Th} (K:Wk w0 w M L T) {mem:List BI} (m:List Nat) (hints:List (Nat×Nat×Nat)) (specs:List Sp) (ts:List (Nat×Nat×Nat)) (d:∀ e∈mem,e.good w) (c:∀ sp∈specs,Hb P n (Below w.heap.size w) (BR todo) sp) (a:∀ z w',Wk w0 w' (CT P n (BR todo) mem hints specs m E ts M z).2.1 L T→At P f R (AP todo) (Fr n (CT P n (BR todo) mem hints specs m E ts M z).1) w') (hd:(Fc todo).isSome=true:=by kernel_rfl) (hmo:P.follows .mixedOrders=true:=by kernel_rfl) (hok:(EY .any (BR todo) (LJ (BR todo) m) (Array.replicate (BR todo).size false) n (KY P n (BR todo) mem hints specs m E) && bare (BR todo) (KY P n (BR todo) mem hints specs m E),m.all (Mv P n (BR todo) mem hints specs m E),Nat.beq (m.length + ts.length) (BR todo).size,Mf (BR todo) .any (m.foldl (fun b i=>b.setIfInBounds i true) (Array.replicate (BR todo).size false)) (ts.map (·.1)))=(true,true,true,true):=by kernel_rfl) (hp:∀ X,cP P n (BR todo) mem hints specs m E X=UR P n (BR todo) mem hints specs m E:=by intro _; kernel_rfl) (ht:∀ z,((UP P n (BR todo) ts (Jm P n (BR todo) mem hints specs m E) M z).isSome,(CT P n (BR todo) mem hints specs m E ts M z).2.1,(CT P n (BR todo) mem hints specs m E ts M z).2.2.2.map Prod.fst)=(true,(CT P n (BR todo) mem hints specs m E ts M z).2.1,(CT P n (BR todo) mem hints specs m E ts M z).2.2.2.map Prod.snd):=by intro _; kernel_rfl):At P f R todo (Fr n E) w:=rT K m hints specs ts (fun z=>(CT P n (BR todo) mem hints specs m E ts M z).2.1) hd hmo d c hok hp ht a
end
end Go.Proofs.YtmcpjkcggfmcmaaGreatDoor

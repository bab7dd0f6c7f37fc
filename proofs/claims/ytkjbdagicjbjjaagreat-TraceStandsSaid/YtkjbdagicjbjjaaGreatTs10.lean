/- Contracts of functions, part 10. -/
import Derived.Test.YtkjbdagicjbjjaaGreatTs09
set_option linter.all false
namespace Go.Proofs.YtkjbdagicjbjjaaGreat
noncomputable section
open Go.RowKit
set_option maxRecDepth 100000
set_option maxHeartbeats 1000000
def Fx (w w':World):Prop:=Below (ε w) w w'
theorem Fx.refl (w:World):Fx w w:=Below.refl _ _
theorem Fx.trans {a b c:World} (h:Fx a b) (k:Fx b c):Fx a c:=Below.trans h (Below.mono k (Below.size h))
def KT (n sz:Nat) (rs:List (List Value)) (vs:List Value) (w:World):Prop:=∃ g,vs=[χ g n n]∧DH CN w sz (θ g) rs
theorem KT.keep {n sz:Nat} {rs:List (List Value)} {a:List Value} {w w':World} (h:KT n sz rs a w) (he:Fx w w'):KT n sz rs a w':=let ⟨g,h1,h2⟩:=h; ⟨g,h1,h2.below he⟩
theorem rowsEx.all {w:World} {A:Option Addr} {es:List Ex} (h:rowsEx w A es) (b:es≠[]):∃ g off,A=some ⟨g,off,none⟩∧g < (ε w)∧∀ (i:Nat) e,es[i]?=some e→∃ a d,w.rangeAt g (off + i * 10) (AX e a d)∧rowsEx w a e.ks:=by
 obtain ⟨ks,c,h2⟩:=h
 rcases h2 with h2 | ⟨g,off,rfl,_,hg,hc⟩
 ·subst h2
  cases es with
  | nil=>exact absurd rfl b
  | cons e es=>unfold FU at c; obtain ⟨_,_,h,_⟩:=c; exact nomatch h
 refine ⟨g,off,rfl,hg,fun i e hi=>?_⟩
 obtain ⟨r,hr,hx⟩:=Mu c hi
 obtain ⟨a,d,rfl,f⟩:=gX hx
 exact ⟨a,d,fun j u hu=>hc i _ hr j u hu,f⟩
def Cm (stop:List Item→Bool):Nat→List Bool→List Item→Nat×List Item
 | 0,_,t=>(0,t)
 | m + 1,bs,t=>match stop t with
  | true=>(0,t)
  | false=>match OM t with
   | some t'=>let r:=Cm stop m bs t'; (r.1 + 1,r.2)
   | none=>match t with
    | .code (.cond _ x y) :: k=>match bs with
     | []=>(0,t)
     | true :: bs=>let r:=Cm stop m bs (.code x :: k); (r.1 + 1,r.2)
     | false :: bs=>let r:=Cm stop m bs (.code y :: k); (r.1 + 1,r.2)
    | .code (.loop c) :: k=>let r:=Cm stop m bs (.code c :: .inLoop c :: k); (r.1 + 1,r.2)
    | .inLoop c :: k=>let r:=Cm stop m bs (.code c :: .inLoop c :: k); (r.1 + 1,r.2)
    | _=>(0,t)
def Gv (T:TypeId):Op→Bool
 | .indexAddr t _ _=>t == T
 | _=>false
def D5:Next→Option Value
 | .value v=>some v
 | .skip=>some undef
 | _=>none
section
variable {P:Program} {ops:Array Oper} {Q:Exit→Act→World→Prop} {md:Region.Mode} {n:Nat} {E:Nat→Value}
theorem qU {a:Array Bool} {fuel i:Nat} {w:World} (o:Oper) (M M':List A7) (hint:Nat×Nat) (b:Nat) (v:Value) (hr:Region.ready md ops a=[i]) (ho:ops[i]?=some o) (hg:o.guard=none)
  (e:EU (M.map (·.id)) (ε w) w ⟨ε w,M,(0,0),[]⟩)
  (he:(Cd P (execOp (A8 n E) o) ⟨ε w,M,hint,[]⟩).map (fun p=>(D5 p.1,p.2.mem,p.2.sz,p.2.eqs.map Prod.fst))=(Cd P (execOp (A8 n E) o) ⟨ε w,M,hint,[]⟩).map (fun p=>(some v,M',b,p.2.eqs.map Prod.snd)))
  (hs:(Cd P (execOp (A8 n E) o) ⟨ε w,M,hint,[]⟩).isSome=true)
  (g:∀ w',EU (M.map (·.id)) (ε w) w' ⟨b,M',(0,0),[]⟩→FH (M.map (·.id)) (ε w) w w'→wpAny P md ops Q fuel (a.setIfInBounds i true) (Fr n (Aw E o.dst v)) w'):wpAny P md ops Q (fuel + 1) a (Fr n E) w:=by
 cases hm:Cd P (execOp (A8 n E) o) ⟨ε w,M,hint,[]⟩ with
 | none=>rw [hm] at hs; cases hs
 | some p=>
  obtain ⟨r,c⟩:=p
  rw [hm] at he
  simp only [Option.map_some,Option.some.injEq,Prod.mk.injEq] at he
  obtain ⟨f,h2,k,j⟩:=he
  refine aQ o ⟨ε w,M,hint,[]⟩ c r v hr ho hg hm ?_ ⟨e.sat,e.le,e.own⟩ j fun w' d h=>g w' (XK d b M' k h2) h
  cases r <;> simp [D5] at f
  ·exact .inl (by rw [f])
  exact .inr ⟨rfl,f.symm⟩
end
section
variable {P:Program} {ops:Array Oper} {Q:Exit→Act→World→Prop} {md:Region.Mode} {n:Nat} {E:Nat→Value}
theorem Pz {a:Array Bool} {fuel i:Nat} {w0 w:World} {M:List A7} {L T:List Th} (K:Wk w0 w M L T) (o:Oper) (M':List A7) (hint:Nat×Nat) (v:Value) (d:∀ w',Wk w0 w' M' L T→wpAny P md ops Q fuel (a.setIfInBounds i true) (Fr n (Aw E o.dst v)) w') (hr:Region.ready md ops a=[i]:=by kernel_rfl) (ho:ops[i]?=some o:=by kernel_rfl) (hg:o.guard=none:=by kernel_rfl) (he:(Cd P (execOp (A8 n E) o) ⟨ε w,M,hint,[]⟩).map (fun p=>(D5 p.1,p.2.mem,p.2.eqs.map Prod.fst))=(Cd P (execOp (A8 n E) o) ⟨ε w,M,hint,[]⟩).map (fun p=>(some v,M',p.2.eqs.map Prod.snd)):=by kernel_rfl) (hs:(Cd P (execOp (A8 n E) o) ⟨ε w,M,hint,[]⟩).isSome=true:=by kernel_rfl) (hown:M'.all (·.own)=true:=by kernel_rfl):wpAny P md ops Q (fuel + 1) a (Fr n E) w:=by
 cases hm:Cd P (execOp (A8 n E) o) ⟨ε w,M,hint,[]⟩ with
 | none=>rw [hm] at hs; cases hs
 | some p=>
  have b:=he
  rw [hm] at b
  simp only [Option.map_some,Option.some.injEq,Prod.mk.injEq] at b
  refine qU o M M' hint p.2.sz v hr ho hg K.H.lies ?_ hs fun w' e c=>d w' ⟨K.B.trans (K.H.keptB c),K.H.run e c hown⟩
  rw [hm]
  simp only [Option.map_some,Option.some.injEq,Prod.mk.injEq]
  exact ⟨b.1,b.2.1,trivial,b.2.2⟩
theorem GI {a:Array Bool} {fuel i:Nat} {w0 w:World} {M:List A7} {L T:List Th} (K:Wk w0 w M L T) (o:Oper) (hint:Nat×Nat) (v:Value)
  (b:∀ w',Wk w0 w' (((Cd P (execOp (A8 n E) o) ⟨ε w,M,hint,[]⟩).map (·.2.mem)).getD []) L T→wpAny P md ops Q fuel (a.setIfInBounds i true) (Fr n (Aw E o.dst v)) w')
  (hr:Region.ready md ops a=[i]:=by kernel_rfl) (ho:ops[i]?=some o:=by kernel_rfl) (hg:o.guard=none:=by kernel_rfl)
  (he:(Cd P (execOp (A8 n E) o) ⟨ε w,M,hint,[]⟩).map (fun p=>(D5 p.1,p.2.eqs.map Prod.fst))=(Cd P (execOp (A8 n E) o) ⟨ε w,M,hint,[]⟩).map (fun p=>(some v,p.2.eqs.map Prod.snd)):=by kernel_rfl)
  (hs:(Cd P (execOp (A8 n E) o) ⟨ε w,M,hint,[]⟩).isSome=true:=by kernel_rfl) (hown:(((Cd P (execOp (A8 n E) o) ⟨ε w,M,hint,[]⟩).map (·.2.mem)).getD []).all (·.own)=true:=by kernel_rfl):wpAny P md ops Q (fuel + 1) a (Fr n E) w:=by
 refine Pz K o _ hint v b hr ho hg ?_ hs hown
 cases hm:Cd P (execOp (A8 n E) o) ⟨ε w,M,hint,[]⟩ with
 | none=>rfl
 | some p=>
  rw [hm] at he
  simp only [Option.map_some,Option.some.injEq,Prod.mk.injEq,Option.getD_some,true_and] at he ⊢
  exact he
theorem Bs {a:Array Bool} {fuel:Nat} {w:World} (l:List (Nat×Value)) (b:∀ E',wpAny P md ops Q fuel a (Fr n (BE E' l)) w) (h:l.map (fun p=>E p.1)=l.map (·.2):=by kernel_rfl):wpAny P md ops Q fuel a (Fr n E) w:=by
 rw [← NN h]
 exact b E
theorem AN.runsK {o:Oper} {ρ:Operand→Value} {w:World} {K:Value→World→Prop} {O:List Nat} {B:Nat} (ms a:MS) (r:Next) (v:Value) (hv:r=.value v∨(r=.skip∧v=undef)) (c:EU O B w ms) (he:a.eqs.map Prod.fst=a.eqs.map Prod.snd) (h:∀ w',EU O B w' a→FH O B w w'→K v w') (hm:Cd P (execOp ρ o) ms=some (r,a):=by kernel_rfl):AN P o ρ w K:=by
 have e:∀ p∈a.eqs,p.1=p.2:=fun p g=>by
  obtain ⟨i,hi⟩:=List.mem_iff_getElem?.1 g
  have d:(a.eqs.map Prod.fst)[i]?=some p.1:=by rw [List.getElem?_map,hi]; rfl
  have h2:(a.eqs.map Prod.snd)[i]?=some p.2:=by rw [List.getElem?_map,hi]; rfl
  rw [he,h2] at d
  exact (Option.some.inj d).symm
 obtain ⟨w',d,h2,f,j⟩:=Jx _ _ _ _ w hm c.sat c.le c.own e
 have b:=h w' ⟨h2,Nat.le_trans c.le f.size,j⟩ f
 unfold AN
 rw [d]
 rcases hv with rfl | ⟨rfl,rfl⟩
 ·exact b
 exact b
end
section
variable {P:Program} {f:FuncId} {R:Ending→World→Prop}
end
theorem rowsEx.all0 {w:World} {A:Option Addr} {es:List Ex} (h:rowsEx w A es) (a:0 < es.length):∃ g off,A=some ⟨g,off,none⟩∧g < (ε w)∧∀ (i:Nat) e,es[i]?=some e→∃ A2 c2,w.rangeAt g (off + i * 10) (AX e A2 c2)∧rowsEx w A2 e.ks:=
 h.all (fun b=>by rw [b] at a; exact absurd a (Nat.lt_irrefl _))
section
variable (P:Program) (n:Nat) (ops:Array Oper) (mem:List A7) (hints:List (Nat×Nat×Nat)) (specs:List Sp)
def IK (hints:List (Nat×Nat×Nat)) (i:Nat):Nat×Nat:=match hints.find? (fun p=>p.1 == i) with
 | some p=>p.2
 | none=>(0,0)
def Mk (G:Nat→Value) (i:Nat):Value:=match He specs i with
 | some sp=>sp.v
 | none=>match (Dh P (execOp (A8 n G) (ops.getD i default)) ⟨0,mem,IK hints i,[]⟩).bind (fun r=>D5 r.1) with
  | some v=>v
  | none=>undef
def C5:List Nat→(Nat→Value)→Nat→Value
 | [],G=>G
 | i :: r,G=>C5 r (Aw G (C3 ops i) (Mk P n ops mem hints specs G i))
def UR (i:Nat):List Nat→List Nat
 | []=>[]
 | j :: r=>match Nat.beq j i with
  | true=>[]
  | false=>j :: UR i r
def Ee (m:List Nat) (E:Nat→Value) (i:Nat):Nat→Value:=C5 P n ops mem hints specs (UR i m) E
def Dt (m:List Nat) (E:Nat→Value) (i:Nat):Value:=Mk P n ops mem hints specs (Ee P n ops mem hints specs m E i) i
def DU (m:List Nat):Wr:=m.filterMap fun i=>(C3 ops i).map fun t=>(t,i)
def qF (m:List Nat) (i:Nat):List Nat:=((ops.getD i default).looksAt ops).filterMap (DU ops m).of
def ABN (m:List Nat):Nat→Nat→List Nat
 | 0,i=>qF ops m i
 | k + 1,i=>qF ops m i++(qF ops m i).flatMap (ABN m k)
def Ef (m:List Nat) (i:Nat):List Nat:=ABN ops m 5 i
def EO (m:List Nat) (E:Nat→Value):List DA:=m.map fun i=>Bd i (Ef ops m i) (Dt P n ops mem hints specs m E i)
def NE (m:List Nat) (E:Nat→Value) (X:Nat→Value) (i:Nat):Operand→Value
 | .tmp t=>match (DU ops m).of t with
  | some j=>match (Ef ops m i).contains j with
   | true=>Dt P n ops mem hints specs m E j
   | false=>X j
  | none=>A8 n E (.tmp t)
 | x=>A8 n E x
def Jw (o:Oper):Bool:=match o.op with
 | .select _ _=>false
 | _=>true
def Ml (m:List Nat) (E:Nat→Value) (X:Nat→Value) (i:Nat):List Value×List Value×Option (Option Value×List Nat):=
 ((ops.getD i default).op.operands.toList.map (NE P n ops mem hints specs m E X i),match He specs i with
  | some sp=>sp.l.map fun p=>A8 n (Ee P n ops mem hints specs m E i) (.tmp p.1)
  | none=>[],match He specs i with
  | some _=>none
  | none=>(Dh P (execOp (A8 n (Ee P n ops mem hints specs m E i)) (ops.getD i default)) ⟨0,mem,IK hints i,[]⟩).map fun r=>(D5 r.1,r.2.eqs.map Prod.fst))
def J0 (m:List Nat) (E:Nat→Value) (i:Nat):List Value×List Value×Option (Option Value×List Nat):=
 ((ops.getD i default).op.operands.toList.map (A8 n (Ee P n ops mem hints specs m E i)),match He specs i with
  | some sp=>sp.l.map (·.2)
  | none=>[],match He specs i with
  | some _=>none
  | none=>(Dh P (execOp (A8 n (Ee P n ops mem hints specs m E i)) (ops.getD i default)) ⟨0,mem,IK hints i,[]⟩).map fun r=>(some (Dt P n ops mem hints specs m E i),r.2.eqs.map Prod.snd))
def FB (m:List Nat) (E:Nat→Value) (i:Nat):Bool:=Jw (ops.getD i default) && match He specs i with
 | some sp=>sp.cond
 | none=>(Dh P (execOp (A8 n (Ee P n ops mem hints specs m E i)) (ops.getD i default)) ⟨0,mem,IK hints i,[]⟩).isSome
def EE:List (Nat×Nat×Nat)→(Nat→Value)→List A7→Nat→Option ((Nat→Value)×List A7×Nat×List (Nat×Nat))
 | [],E,M,z=>some (E,M,z,[])
 | p :: r,E,M,z=>match Cd P (execOp (A8 n E) (ops.getD p.1 default)) ⟨z,M,p.2,[]⟩ with
  | some (nx,ms')=>match D5 nx,ms'.mem.all (·.own) with
   | some v,true=>match EE r (Aw E (ops.getD p.1 default).dst v) ms'.mem ms'.sz with
    | some q=>some (q.1,q.2.1,q.2.2.1,ms'.eqs++q.2.2.2)
    | none=>none
   | _,_=>none
  | none=>none
def JW (md:Region.Mode):Array Bool→List Nat→Bool
 | listed,[]=>(Region.ready md ops listed).isEmpty
 | listed,i :: r=>(Region.ready md ops listed == [i]) && ((ops.getD i default).guard.isNone && (Nat.blt i ops.size && JW md (listed.setIfInBounds i true) r))
end
section
variable {P:Program} {n:Nat} {ops:Array Oper} {mem:List A7} {hints:List (Nat×Nat×Nat)} {specs:List Sp}
theorem Ip {ρ:Operand→Value}:∀ {l:List (Tmp×Value)},l.map (fun p=>ρ (.tmp p.1))=l.map (·.2)→Ix ρ l
 | [],_=>trivial
 | p :: l,h=>⟨(List.cons.inj h).1,Ip (List.cons.inj h).2⟩
theorem AN.of_quiet {o:Oper} {ρ:Operand→Value} {w:World} {C:World→Prop} {v:Value} {K:Value→World→Prop} (h:Oper.quietUpon P C w v ((execOp ρ o).run P w)) (hc:C w) (b:∀ w',C w'→K v w'):AN P o ρ w K:=by
 unfold AN
 unfold Oper.quietUpon at h
 split at h
 ·rename_i u w' he; obtain ⟨rfl,rfl⟩:=h; rw [he]; exact b _ hc
 ·rename_i w' he; obtain ⟨rfl,rfl⟩:=h; rw [he]; exact b _ hc
 ·rename_i g args w' he
  obtain ⟨rfl,h⟩:=h
  rw [he]
  exact h.mono fun e a ⟨c,h2⟩=>⟨v,c,b a h2⟩
 exact h.elim
theorem Ir {m:List Nat} {E:Nat→Value} {vals:Nat→Value} {u:World} {B:List Nat}:∀ {l:List Nat},Fn B vals u (l.map fun i=>Bd i (Ef ops m i) (Dt P n ops mem hints specs m E i))→∀ j∈l,B.contains j=true→vals j=Dt P n ops mem hints specs m E j
 | [],_,_,h,_=>by cases h
 | i :: l,hb,j,a,hB=>by
  rw [List.map_cons] at hb
  unfold Fn at hb
  rcases List.mem_cons.1 a with rfl | a
  ·rw [show (Bd j (Ef ops m j) (Dt P n ops mem hints specs m E j)).idx=j from rfl,hB] at hb
   exact (List.cons.inj hb.1).1
  split at hb
  ·exact Ir hb.2 j a hB
  exact Ir hb j a hB
theorem JL {m:List Nat} {E:Nat→Value} {vals:Nat→Value} {u:World}:∀ {l:List Nat},Ff vals u (l.map fun i=>Bd i (Ef ops m i) (Dt P n ops mem hints specs m E i))→∀ j∈l,vals j=Dt P n ops mem hints specs m E j
 | [],_,_,h=>by cases h
 | i :: l,hb,j,a=>by
  rw [List.map_cons] at hb
  unfold Ff at hb
  rcases List.mem_cons.1 a with rfl | a
  ·exact (List.cons.inj hb.1).1
  exact JL hb.2 j a
theorem UQ {i:Nat}:∀ {B C:List Nat},i∉B→UR i (B++i :: C)=B
 | [],C,_=>by
  show (match Nat.beq i i with | true=>[] | false=>i :: UR i C)=[]
  rw [Nat.beq_refl]
 | j :: B,C,h=>by
  have a:Nat.beq j i=false:=by
   cases hb:Nat.beq j i with
   | false=>rfl
   | true=>exact absurd (by rw [Nat.eq_of_beq_eq_true hb]; simp) h
  rw [List.cons_append]
  unfold UR
  rw [a,UQ (fun hm=>h (by simp [hm]))]
theorem Mt {m:List Nat} {E:Nat→Value} {vals:Nat→Value} (hn:m.Nodup) (hv:∀ j∈m,vals j=Dt P n ops mem hints specs m E j):Lj ops vals m E=C5 P n ops mem hints specs m E:=by
 have go:∀ (C B:List Nat),B++C=m→C.foldl (fun E i=>Aw E (C3 ops i) (vals i)) (C5 P n ops mem hints specs B E)=C5 P n ops mem hints specs m E:=by
  intro C
  induction C with
  | nil=>intro B b; rw [List.append_nil] at b; rw [b]; rfl
  | cons i C ih=>
   intro B b
   have hi:i∈m:=by rw [← b]; simp
   have c:i∉B:=fun hb=>by
    rw [← b,List.nodup_append] at hn
    exact hn.2.2 i hb i (by simp) rfl
   rw [List.foldl_cons,hv i hi]
   have h2:C5 P n ops mem hints specs (B++[i]) E=Aw (C5 P n ops mem hints specs B E) (C3 ops i) (Dt P n ops mem hints specs m E i):=by
    have a:∀ (B:List Nat) (G:Nat→Value),C5 P n ops mem hints specs (B++[i]) G=Aw (C5 P n ops mem hints specs B G) (C3 ops i) (Mk P n ops mem hints specs (C5 P n ops mem hints specs B G) i):=by
     intro B
     induction B with
     | nil=>intro G; rfl
     | cons j B ihb=>intro G; exact ihb _
    rw [a]
    unfold Dt Ee
    rw [← b,UQ c]
   rw [← h2]
   exact ih (B++[i]) (by rw [List.append_assoc]; exact b)
 exact go m [] rfl
theorem Ky {Q:Exit→Act→World→Prop} {w0:World} {L T:List Th} {fuel:Nat}:∀ (l:List (Nat×Nat×Nat)) (b:Array Bool) (E:Nat→Value) (M:List A7) (w:World) (K:Wk w0 w M L T) (z:Nat) (_:(ε w)=z) (q:(Nat→Value)×List A7×Nat×List (Nat×Nat)),
  EE P n ops l E M z=some q→(∀ p∈q.2.2.2,p.1=p.2)→JW ops .any b (l.map (·.1))=true→(∀ w' a,Wk w0 w' q.2.1 L T→a=Fr n q.1→Q .normal a w')→wpAny P .any ops Q (l.length + fuel) b (Fr n E) w
 | [],b,E,M,w,K,z,_,q,hq,_,hr,hk=>by
  obtain rfl:=Option.some.inj hq
  exact FN (hr:=(List.isEmpty_iff.1 hr)) (hk w _ K rfl)
 | p :: r,b,E,M,w,K,z,hz,q,hq,he,hr,hk=>by
  subst hz
  rw [List.map_cons] at hr
  unfold JW at hr
  rw [Bool.and_eq_true,Bool.and_eq_true,Bool.and_eq_true] at hr
  obtain ⟨k,h2,s,o⟩:=hr
  have k:=eq_of_beq k
  have i:p.1 < ops.size:=Nat.le_of_ble_eq_true s
  have ho:ops[p.1]?=some (ops.getD p.1 default):=by simp [Array.getD,i]
  unfold EE at hq
  cases hm:Cd P (execOp (A8 n E) (ops.getD p.1 default)) ⟨ε w,M,p.2,[]⟩ with
  | none=>rw [hm] at hq; cases hq
  | some x=>
   obtain ⟨f,c⟩:=x
   rw [hm] at hq
   simp only at hq
   split at hq
   ·rename_i v hv hown
    cases hg:EE P n ops r (Aw E (ops.getD p.1 default).dst v) c.mem c.sz with
    | none=>rw [hg] at hq; cases hq
    | some q'=>
     rw [hg] at hq
     obtain rfl:=Option.some.inj hq
     have j:c.eqs.map Prod.fst=c.eqs.map Prod.snd:=List.map_congr_left fun y g=>he y (List.mem_append_left _ g)
     rw [show (p :: r).length + fuel=(r.length + fuel) + 1 by simp; omega]
     have d:EU (M.map (·.id)) (ε w) w ⟨ε w,M,p.2,[]⟩:=by
      have:=K.H.lies
      exact ⟨this.sat,this.le,this.own⟩
     have h:f=.value v∨(f=.skip∧v=undef):=by
      cases f <;> simp [D5] at hv
      ·exact .inl (by rw [hv])
      exact .inr ⟨rfl,hv.symm⟩
     refine aQ (ops.getD p.1 default) ⟨ε w,M,p.2,[]⟩ c f v k ho (by simpa using h2) hm h d j fun w' e m=>?_
     have t:Wk w0 w' c.mem L T:=⟨K.B.trans (K.H.keptB m),K.H.run e m hown⟩
     exact Ky r _ _ _ w' t c.sz e.sat.size q' hg (fun y g=>he y (List.mem_append_right _ g)) o hk
   cases hq
theorem Ig {l:List (Nat×Nat)} (h:l.map Prod.fst=l.map Prod.snd):∀ p∈l,p.1=p.2:=fun p b=>by
 obtain ⟨i,hi⟩:=List.mem_iff_getElem?.1 b
 have a:(l.map Prod.fst)[i]?=some p.1:=by rw [List.getElem?_map,hi]; rfl
 have h2:(l.map Prod.snd)[i]?=some p.2:=by rw [List.getElem?_map,hi]; rfl
 rw [h,h2] at a
 exact (Option.some.inj a).symm
def BV (P:Program) (n:Nat) (ops:Array Oper) (mem:List A7) (hints:List (Nat×Nat×Nat)) (specs:List Sp) (m:List Nat) (E:Nat→Value) (ts:List (Nat×Nat×Nat)) (M:List A7) (z:Nat):(Nat→Value)×List A7×Nat×List (Nat×Nat):=
 match EE P n ops ts (C5 P n ops mem hints specs m E) M z with
 | some q=>q
 | none=>(E,[],0,[])
def Jc (P:Program) (n:Nat) (ops:Array Oper) (mem:List A7) (hints:List (Nat×Nat×Nat)) (specs:List Sp) (m:List Nat) (E:Nat→Value) (X:Nat→Value):List (List Value×List Value×Option (Option Value×List Nat)):=m.map (Ml P n ops mem hints specs m E X)
def Hk (P:Program) (n:Nat) (ops:Array Oper) (mem:List A7) (hints:List (Nat×Nat×Nat)) (specs:List Sp) (m:List Nat) (E:Nat→Value):List (List Value×List Value×Option (Option Value×List Nat)):=m.map (J0 P n ops mem hints specs m E)
end
theorem SW {P:Program} {n:Nat} {ops:Array Oper} {Q:Exit→Act→World→Prop} {a:Array Bool} {E:Nat→Value} {w0 w w1:World} {M:List A7} {L T:List Th} (K:Wk w0 w M L T) (r0:Below (ε w) w w1) {mem:List A7} (m:List Nat) (hints:List (Nat×Nat×Nat)) (specs:List Sp) (r:Nat)
  (hM:∀ e∈mem,e.good w) (hS:∀ sp∈specs,FG P n (Below (ε w) w) ops sp)
  (hok:(Ev .any ops (DU ops m) a n (EO P n ops mem hints specs m E) && HM ops (EO P n ops mem hints specs m E))=true) (i0:m.all (FB P n ops mem hints specs m E)=true)
  (hp:∀ X,Jc P n ops mem hints specs m E X=Hk P n ops mem hints specs m E)
  (hk:∀ u,Wk w0 u M L T→wpAny P .any ops Q r (m.foldl (fun b i=>b.setIfInBounds i true) a) (Fr n (C5 P n ops mem hints specs m E)) u):wpAny P .any ops Q (m.length + r) a (Fr n E) w1:=by
 have parts:∀ l:List Nat,(∀ i∈l,i∈m)→Jg P ops n E (DU ops m) (fun u=>Below (ε w) w u) (fun _ _=>True) (EO P n ops mem hints specs m E) (l.map fun i=>Bd i (Ef ops m i) (Dt P n ops mem hints specs m E i)):=by
  intro l
  induction l with
  | nil=>intro _; trivial
  | cons i l ih=>
   intro hl
   refine ⟨⟨fun _ _ _ _ _ h=>h,fun vals u hu hb=>?_⟩,ih fun j hj=>hl j (by simp [hj])⟩
   have c0:=hl i (by simp)
   have hs:=List.all_eq_true.1 i0 i c0
   unfold FB at hs
   rw [Bool.and_eq_true] at hs
   have o:Ml P n ops mem hints specs m E vals i=J0 P n ops mem hints specs m E i:=by
    have h1:=hp vals
    unfold Jc Hk at h1
    exact (List.map_inj_left.1 h1) i c0
   unfold Ml J0 at o
   simp only [Prod.mk.injEq] at o
   obtain ⟨hop,b0,c⟩:=o
   have hρ:∀ x∈(ops.getD i default).op.operands,DF n E (DU ops m) vals x=A8 n (Ee P n ops mem hints specs m E i) x:=fun x hx=>by
    have h2:NE P n ops mem hints specs m E vals i x=A8 n (Ee P n ops mem hints specs m E i) x:=by
     have g0:x∈(ops.getD i default).op.operands.toList:=Array.mem_toList_iff.2 hx
     obtain ⟨k,q⟩:=List.mem_iff_getElem?.1 g0
     have h3:=congrArg (fun l=>l[k]?) hop
     simp only [List.getElem?_map,q,Option.map_some,Option.some.injEq] at h3
     exact h3
    rw [← h2]
    cases x with
    | tmp t=>
     unfold DF NE
     cases hW:(DU ops m).of t with
     | none=>simp only [hW]
     | some j=>
      simp only [hW]
      cases hc:(Ef ops m i).contains j with
      | false=>rfl
      | true=>
       have hj:j∈m:=by
        unfold Wr.of at hW
        obtain ⟨p,k0,j0⟩:=Option.map_eq_some_iff.1 hW
        have f:=List.mem_of_find?_eq_some k0
        unfold DU at f
        obtain ⟨k,p0,q⟩:=List.mem_filterMap.1 f
        obtain ⟨t',_,rfl⟩:=Option.map_eq_some_iff.1 q
        rw [← j0]
        exact p0
       exact Ir hb j hj hc
    | _=>rfl
   have s:∀ cs b,(ops.getD i default).op≠.select cs b:=fun cs b hh=>by
    have:=hs.1
    unfold Jw at this
    rw [hh] at this
    cases this
   show AN P (ops.getD i default) (DF n E (DU ops m) vals) u _
   have q0:∀ K',AN P (ops.getD i default) (A8 n (Ee P n ops mem hints specs m E i)) u K'→AN P (ops.getD i default) (DF n E (DU ops m) vals) u K':=fun K' h=>by
    unfold AN at h ⊢
    rw [execOp_congr _ s hρ]
    exact h
   refine q0 _ ?_
   cases hsp:He specs i with
   | some sp=>
    rw [hsp] at b0 hs
    have f:=I5 hsp
    have hi:=f.2
    have z:=hS sp f.1 hs.2 (Ee P n ops mem hints specs m E i) (Ip b0) u hu
    rw [hi] at z
    refine AN.of_quiet z hu fun w' h0=>⟨h0,trivial,?_⟩
    show [Dw vals i sp.v i]=[Dt P n ops mem hints specs m E i]
    unfold Dw Dt Mk
    rw [hsp,if_pos rfl]
   | none=>
    rw [hsp] at c hs
    simp only at c hs
    obtain ⟨x,hx⟩:=Option.isSome_iff_exists.1 hs.2
    rw [hx] at c
    simp only [Option.map_some,Option.some.injEq,Prod.mk.injEq] at c
    obtain ⟨nx,e0⟩:=x
    have d:=c.1
    cases nx with
    | value v=>
     simp only [D5,Option.some.injEq] at d
     refine AN.reads ⟨0,mem,IK hints i,[]⟩ (CQ hM hu) v (hv:=by rw [hx]; rfl) (he:=by rw [hx]; exact congrArg some c.2) ⟨hu,trivial,?_⟩
     show [Dw vals i v i]=[Dt P n ops mem hints specs m E i]
     unfold Dw
     rw [if_pos rfl,d]
    | skip=>
     simp only [D5,Option.some.injEq] at d
     have m0:(Dh P (execOp (A8 n (Ee P n ops mem hints specs m E i)) (ops.getD i default)) ⟨0,mem,IK hints i,[]⟩)=some (.skip,e0):=hx
     have y:=F4 (w:=u) _ _ _ _ m0 (CQ hM hu) (Ig c.2)
     unfold AN
     rw [y]
     refine ⟨hu,trivial,?_⟩
     show [Dw vals i undef i]=[Dt P n ops mem hints specs m E i]
     unfold Dw
     rw [if_pos rfl,d]
    | enter _ _=>simp [D5] at d
    | _=>simp [D5] at d
 have a0:(EO P n ops mem hints specs m E).length=m.length:=by unfold EO; rw [List.length_map]
 have g:(EO P n ops mem hints specs m E).map (·.idx)=m:=by unfold EO; rw [List.map_map]; exact List.map_id _
 have l0:m.Nodup:=by
  have:=Eu (by have h:=hok; rw [Bool.and_eq_true] at h; exact h.1)
  rw [← g]; exact this.nodup
 refine D8 (md:=.any) (fuel:=r) (L:=EO P n ops mem hints specs m E) (W:=DU ops m) (C:=fun u=>Below (ε w) w u) (Ext:=fun _ _=>True) (hok:=hok) r0 (fun _=>trivial) (fun _ _ _ _ _=>trivial) (parts m fun i hi=>hi) (by rw [a0]) fun vals u hu _ d0=>?_
 rw [g,Mt (mem:=mem) (hints:=hints) (specs:=specs) (P:=P) (n:=n) l0 (fun j hj=>JL d0 j hj)]
 exact hk u (K.below hu)
theorem X9 {P:Program} {f:FuncId} {R:Ending→World→Prop} {n:Nat} {todo:List Item} {E:Nat→Value} {w0 w:World} {M:List A7} {L T:List Th} (K:Wk w0 w M L T) {mem:List A7} (m:List Nat) (hints:List (Nat×Nat×Nat)) (specs:List Sp) (r:Nat)
  (hd:(FL todo).isSome=true) (h:P.follows .mixedOrders=true) (p:∀ e∈mem,e.good w) (l:∀ sp∈specs,FG P n (Below (ε w) w) (AR todo) sp)
  (hok:(Ev .any (AR todo) (DU (AR todo) m) (Array.replicate (AR todo).size false) n (EO P n (AR todo) mem hints specs m E) && HM (AR todo) (EO P n (AR todo) mem hints specs m E),m.all (FB P n (AR todo) mem hints specs m E),Nat.beq (m.length + r) (AR todo).size)=(true,true,true))
  (k:∀ X,Jc P n (AR todo) mem hints specs m E X=Hk P n (AR todo) mem hints specs m E)
  (j:∀ u,Wk w0 u M L T→wpAny P .any (AR todo) (fun e a w=>e=.normal∧H1 P f R (AM todo) a w) r (m.foldl (fun b i=>b.setIfInBounds i true) (Array.replicate (AR todo).size false)) (Fr n (C5 P n (AR todo) mem hints specs m E)) u):At P f R todo (Fr n E) w:=by
 obtain ⟨ops,c⟩:=Option.isSome_iff_exists.1 hd
 have hr:AR todo=ops:=by
  unfold FL at c
  split at c
  ·obtain rfl:=Option.some.inj c; rfl
  cases c
 rw [hr] at hok k j l
 simp only [Prod.mk.injEq] at hok
 obtain ⟨hok,g,d⟩:=hok
 have o:m.length + r=ops.size:=Nat.eq_of_beq_eq_true d
 refine ER ops (hd:=c) (hm:=h) (m.length + r) (hs:=o.symm) ?_
 rw [← o] at hok j
 exact SW K (Below.refl _ _).drew m hints specs r p l hok g k j
theorem ABf {P:Program} {f:FuncId} {R:Ending→World→Prop} {n:Nat} {todo:List Item} {E:Nat→Value} {w0 w:World} {M:List A7} {L T:List Th} (K:Wk w0 w M L T) {mem:List A7} (m:List Nat) (hints:List (Nat×Nat×Nat)) (specs:List Sp) (ts:List (Nat×Nat×Nat)) (M':Nat→List A7)
  (hd:(FL todo).isSome=true) (l:P.follows .mixedOrders=true) (v:∀ e∈mem,e.good w) (t:∀ sp∈specs,FG P n (Below (ε w) w) (AR todo) sp)
  (hok:(Ev .any (AR todo) (DU (AR todo) m) (Array.replicate (AR todo).size false) n (EO P n (AR todo) mem hints specs m E) && HM (AR todo) (EO P n (AR todo) mem hints specs m E),m.all (FB P n (AR todo) mem hints specs m E),Nat.beq (m.length + ts.length) (AR todo).size,JW (AR todo) .any (m.foldl (fun b i=>b.setIfInBounds i true) (Array.replicate (AR todo).size false)) (ts.map (·.1)))=(true,true,true,true))
  (r:∀ X,Jc P n (AR todo) mem hints specs m E X=Hk P n (AR todo) mem hints specs m E)
  (ht:∀ z,((EE P n (AR todo) ts (C5 P n (AR todo) mem hints specs m E) M z).isSome,(BV P n (AR todo) mem hints specs m E ts M z).2.1,(BV P n (AR todo) mem hints specs m E ts M z).2.2.2.map Prod.fst)=(true,M' z,(BV P n (AR todo) mem hints specs m E ts M z).2.2.2.map Prod.snd))
  (s:∀ z w',Wk w0 w' (M' z) L T→At P f R (AM todo) (Fr n (BV P n (AR todo) mem hints specs m E ts M z).1) w'):At P f R todo (Fr n E) w:=by
 simp only [Prod.mk.injEq] at hok
 obtain ⟨h1,h2,y,k⟩:=hok
 refine X9 K m hints specs ts.length hd l v t (by rw [h1,h2,y]) r fun u Ku=>?_
 have c:=ht (ε u)
 simp only [Prod.mk.injEq] at c
 obtain ⟨j,g,d⟩:=c
 obtain ⟨q,o⟩:=Option.isSome_iff_exists.1 j
 have x:BV P n (AR todo) mem hints specs m E ts M (ε u)=q:=by unfold BV; rw [o]
 have h:=s (ε u)
 rw [x] at g d h
 exact Ky (P:=P) (n:=n) (ops:=AR todo) (L:=L) (T:=T) (w0:=w0) (fuel:=0) (Q:=fun e a w=>e=.normal∧H1 P f R (AM todo) a w) ts _ _ M u Ku (ε u) rfl q o (Ig d) k fun w' a p ha=>⟨rfl,by rw [ha]; rw [g] at p; exact (h w' p).mid⟩
theorem GD {P:Program} {f:FuncId} {R:Ending→World→Prop} {n:Nat} {todo:List Item} {E:Nat→Value} {w0 w:World} {M:List A7} {L T:List Th} (K:Wk w0 w M L T) {mem:List A7} (m:List Nat) (hints:List (Nat×Nat×Nat)) (specs:List Sp) (ts:List (Nat×Nat×Nat)) (d:∀ e∈mem,e.good w) (c:∀ sp∈specs,FG P n (Below (ε w) w) (AR todo) sp) (a:∀ z w',Wk w0 w' (BV P n (AR todo) mem hints specs m E ts M z).2.1 L T→At P f R (AM todo) (Fr n (BV P n (AR todo) mem hints specs m E ts M z).1) w') (hd:(FL todo).isSome=true:=by kernel_rfl) (hmo:P.follows .mixedOrders=true:=by kernel_rfl) (hok:(Ev .any (AR todo) (DU (AR todo) m) (Array.replicate (AR todo).size false) n (EO P n (AR todo) mem hints specs m E) && HM (AR todo) (EO P n (AR todo) mem hints specs m E),m.all (FB P n (AR todo) mem hints specs m E),Nat.beq (m.length + ts.length) (AR todo).size,JW (AR todo) .any (m.foldl (fun b i=>b.setIfInBounds i true) (Array.replicate (AR todo).size false)) (ts.map (·.1)))=(true,true,true,true):=by kernel_rfl) (hp:∀ X,Jc P n (AR todo) mem hints specs m E X=Hk P n (AR todo) mem hints specs m E:=by intro _; kernel_rfl) (ht:∀ z,((EE P n (AR todo) ts (C5 P n (AR todo) mem hints specs m E) M z).isSome,(BV P n (AR todo) mem hints specs m E ts M z).2.1,(BV P n (AR todo) mem hints specs m E ts M z).2.2.2.map Prod.fst)=(true,(BV P n (AR todo) mem hints specs m E ts M z).2.1,(BV P n (AR todo) mem hints specs m E ts M z).2.2.2.map Prod.snd):=by intro _; kernel_rfl):At P f R todo (Fr n E) w:=ABf K m hints specs ts (fun z=>(BV P n (AR todo) mem hints specs m E ts M z).2.1) hd hmo d c hok hp ht a
section
variable {P:Program} {o:Oper} {ρ:Operand→Value} {w:World}
theorem Ie {T T':TypeId} {x y:Operand} {a b:Nat} (hop:o.op=.binOp .quo T x y T') (hx:ρ x=.int .u64 a) (c:ρ y=.int .u64 b) (hb:0 < b) (ha:a≤18446744073709551615):(execOp ρ o).run P w=.ok (.value (.int .u64 ((a / b:Nat):Int))) w:=by
 unfold execOp
 simp [hop,hx,c,binOp,Op.intDiv,eqGuard]
 rw [if_neg (by omega),IntKind.wrap_u64]
 have d:a / b≤a:=Nat.div_le_self a b
 rw [show ((a:Int) / (b:Int))=((a / b:Nat):Int) by omega]
 generalize a / b=q at d
 rw [show ((q:Int) % 18446744073709551616)=(q:Int) by omega]
end
def Li (neg:Bool) (n d:Nat):Int×Int×Int:=cond (decide (1000000000000 < n / Nat.gcd n d) || decide (1000000 < d / Nat.gcd n d)) (0,0,4) (cond neg (-((n / Nat.gcd n d:Nat):Int)) ((n / Nat.gcd n d:Nat):Int),((d / Nat.gcd n d:Nat):Int),0)
abbrev DT (r:Int×Int×Int):Value:=.tuple #[ψ [δ r.1,δ r.2.1],δ r.2.2]
noncomputable def Zx:Code:=Tryz.f98.body.getD .skip
def sG:=ν [.code Zx]
def sF:=Al 2 (AC sG)
def sE:=Al 3 (AM sF)
def bk:=AI sE
def AC2:=Ξ bk
def bj:=Ψ bk
def AC1:=Ξ bj
def AC0:=Ψ bj
theorem XV (neg:Bool) (n d:Nat) (w:World) (hn:n≤18446744073709551615) (hd:d≤18446744073709551615) (z:0 < d):Calls Tryz.prog 98 ([ξ neg,.int .u64 (n:Int),.int .u64 (d:Int)]:List Value).toArray w fun e w'=>e=.returned (DT (Li neg n d))∧Below (ε w) w w':=by
 refine AS (fn:=Tryz.f98) (c:=Zx) (n:=35) ?_
 have K1:=Wk.start w
 refine Ah sG [ι (ε w) [δ 0,δ 0] 41] K1 [] fun q K2=>?_
 refine BA (OY n d q hn hd) fun en w2 v=>?_
 obtain ⟨rfl,k,rfl⟩:=v
 refine ⟨_,rfl,?_⟩
 have hg:0 < Nat.gcd n d:=Nat.gcd_pos_of_pos_right _ z
 unfold Li
 generalize Nat.gcd n d=g at hg ⊢
 have K3:=K2.below (GB (Below.refl _ _) k)
 refine As 2 sF K3 [] fun w3 m=>?_
 refine Av m [] [⟨2,[(13,.int .u64 (n:Int)),(14,.int .u64 (g:Int))],.int .u64 ((n / g:Nat):Int),true⟩,⟨5,[(16,.int .u64 (d:Int)),(17,.int .u64 (g:Int))],.int .u64 ((d / g:Nat):Int),true⟩] m.G (fun r a=>?_) fun w4 E4 K5=>?_
 ·rcases List.mem_cons.1 a with rfl | a
  ·exact BQ fun _ E u _=>Ie (T:=164) (T':=164) (x:=.tmp 13) (y:=.tmp 14) (by kernel_rfl) (by kernel_rfl) (by kernel_rfl) hg hn
  obtain rfl:=List.mem_singleton.1 a
  exact BQ fun _ E u _=>Ie (T:=164) (T':=164) (x:=.tmp 16) (y:=.tmp 17) (by kernel_rfl) (by kernel_rfl) (by kernel_rfl) hg hd
 have t:n / g≤n:=Nat.div_le_self n g
 have s:d / g≤d:=Nat.div_le_self d g
 generalize n / g=x at *
 generalize d / g=y at *
 refine As 3 sE K5 [] fun w5 l=>?_
 refine Av l [] [] l.G (fun r a=>by cases a) fun w6 E6 K7=>?_
 refine AB bk K7 [] fun w7 j=>?_
 refine AG (cond (decide (1000000000000 < (x:Int))) true (decide (1000000 < (y:Int)))) (fun i=>?_) (fun i=>?_)
 ·refine AB AC2 j [(0,0)] fun p f=>?_
  have hc:(decide (1000000000000 < x) || decide (1000000 < y))=true:=by simp at i ⊢; omega
  exact AK f (0,0) (.tuple #[ψ [δ 0,δ 0],δ 4]) ⟨by rw [hc]; rfl,f.B⟩
 have hx:x≤1000000000000∧y≤1000000:=by simp at i; omega
 have hc:(decide (1000000000000 < x) || decide (1000000 < y))=false:=by simp; omega
 refine AB bj j [] fun p f=>?_
 refine AG neg (fun h=>?_) (fun h=>?_)
 ·refine Am AC1 f [(0,0)] fun o b=>?_
  refine AK b (0,0) (.tuple #[ψ [δ (IntKind.i64.wrap (0 - IntKind.i64.wrap (x:Int))),δ (IntKind.i64.wrap (y:Int))],δ 0]) ⟨?_,b.B⟩
  rw [IntWalk.i64_in (x:Int) (by omega),IntWalk.i64_in (0 - (x:Int)) (by omega),Int.zero_sub,IntWalk.i64_in (y:Int) (by omega),hc,h]
  rfl
 refine Am AC0 f [(0,0)] fun o b=>?_
 refine AK b (0,0) (.tuple #[ψ [δ (IntKind.i64.wrap (x:Int)),δ (IntKind.i64.wrap (y:Int))],δ 0]) ⟨?_,b.B⟩
 rw [IntWalk.i64_in (x:Int) (by omega),IntWalk.i64_in (y:Int) (by omega),hc,h]
 rfl
noncomputable def Zv:Code:=Tryz.f95.body.getD .skip
def bh:=ν [.code Zv]
def ACy:=Ξ bh
def ACx:=Ψ bh
theorem JB (n:Int) (w:World) (j:-9223372036854775808≤n) (i:n≤9223372036854775807):Calls Tryz.prog 95 ([δ n]:List Value).toArray w fun e w'=>e=.returned (.int .u64 (n.natAbs:Nat))∧Below (ε w) w w':=by
 refine AS (fn:=Tryz.f95) (c:=Zv) (n:=10) ?_
 have g:=Wk.start w
 refine AB bh g [] fun h d=>?_
 refine AG (decide (n < 0)) (fun b=>?_) (fun b=>?_)
 ·have hn:n < 0:=of_decide_eq_true b
  refine AB ACy d [] fun f a=>?_
  refine AK a (0,0) (.int .u64 (IntKind.u64.wrap (0 - IntKind.u64.wrap n))) ⟨?_,a.B⟩
  simp only [IntKind.wrap_u64]
  congr 2
  omega
 have hn:¬ n < 0:=of_decide_eq_false b
 refine AB ACx d [] fun f a=>?_
 refine AK a (0,0) (.int .u64 (IntKind.u64.wrap n)) ⟨?_,a.B⟩
 simp only [IntKind.wrap_u64]
 congr 2
 omega
def KZ (n d:Int):Int×Int×Int:=cond (d == 0) (0,0,5) (Li (decide (n < 0) != decide (d < 0)) n.natAbs d.natAbs)
noncomputable def Zo:Code:=Tryz.f66.body.getD .skip
def bP:=ν [.code Zo]
def ACg:=Ξ bP
def rk:=Ψ bP
def rh:=Ω rk
def rg:=Ω rh
def ACf:=Ω rg
theorem Pa (n d:Int) (w:World) (m:-9223372036854775808≤n) (l:n≤9223372036854775807) (h2:-9223372036854775808≤d) (k:d≤9223372036854775807):Calls Tryz.prog 66 ([δ n,δ d]:List Value).toArray w fun e w'=>e=.returned (DT (KZ n d))∧Below (ε w) w w':=by
 refine AS (fn:=Tryz.f66) (c:=Zo) (n:=21) ?_
 have t:=Wk.start w
 refine Ah bP [ι (ε w) [δ 0,δ 0] 41] t [] fun z h=>?_
 unfold KZ
 refine AG (d == 0) (fun a=>?_) (fun a=>?_)
 ·refine AB ACg h [(0,0)] fun f b=>?_
  exact AK b (0,0) (.tuple #[ψ [δ 0,δ 0],δ 5]) ⟨by rw [a]; rfl,b.B⟩
 have hd:d≠0:=by simpa using a
 refine AB rk h [] fun f b=>?_
 refine AP b (JB n f m l) fun y s=>?_
 refine AB rh s [] fun j r=>?_
 refine AP r (JB d j h2 k) fun x q=>?_
 refine AB rg q [] fun i p=>?_
 refine AP p (XV (decide (n < 0) != decide (d < 0)) n.natAbs d.natAbs i (by omega) (by omega) (by omega)) fun v o=>?_
 refine Am ACf o [(0,0)] fun u g=>?_
 exact AK g (0,0) (DT (Li (decide (n < 0) != decide (d < 0)) n.natAbs d.natAbs)) ⟨by rw [a]; rfl,g.B⟩
end
end Go.Proofs.YtkjbdagicjbjjaaGreat

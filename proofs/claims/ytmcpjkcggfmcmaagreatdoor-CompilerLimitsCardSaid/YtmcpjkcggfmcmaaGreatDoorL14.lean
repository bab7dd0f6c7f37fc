/-
  Part 14 of a proof: contracts of functions.
-/
import Derived.Test.YtmcpjkcggfmcmaaGreatDoorL13
set_option linter.all false
namespace Go.Proofs.YtmcpjkcggfmcmaaGreatDoor
open Go.RowKit
set_option maxRecDepth 100000
def CQ (w w':World):Prop:=Below w.heap.size w w'
theorem CQ.refl (w:World):CQ w w:=Below.refl _ _
theorem CQ.trans {a b c:World} (h:CQ a b) (k:CQ b c):CQ a c:=Below.trans h (Below.mono k (Below.size h))
def Hu (n sz:Nat) (rs:List (List Value)) (vs:List Value) (w:World):Prop:=∃ g,vs=[.slice (some ⟨g,0,none⟩) n n]∧CU CG w sz (some ⟨g,0,none⟩) rs
theorem Hu.keep {n sz:Nat} {rs:List (List Value)} {vs:List Value} {w w':World} (h:Hu n sz rs vs w) (he:CQ w w'):Hu n sz rs vs w':=let ⟨g,h1,h2⟩:=h; ⟨g,h1,h2.below he⟩
theorem rowsEx.all {w:World} {A:Option Addr} {es:List Ex} (h:rowsEx w A es) (hne:es≠[]):∃ g off,A=some ⟨g,off,none⟩∧g < w.heap.size∧∀ (i:Nat) e,es[i]?=some e→∃ A2 c2,w.rangeAt g (off + i * 10) (Bo e A2 c2)∧rowsEx w A2 e.ks:=by
 obtain ⟨ks,h1,h2⟩:=h
 rcases h2 with h2 | ⟨g,off,rfl,_,hg,hc⟩
 ·subst h2
  cases es with
  | nil=>exact absurd rfl hne
  | cons e es=>unfold Dc at h1; obtain ⟨_,_,h,_⟩:=h1; exact nomatch h
 ·refine ⟨g,off,rfl,hg,fun i e hi=>?_⟩
  obtain ⟨r,hr,hx⟩:=JT h1 hi
  obtain ⟨A2,c2,rfl,h3⟩:=Vg hx
  exact ⟨A2,c2,fun j u hu=>hc i _ hr j u hu,h3⟩
def CE (stop:List Item→Bool):Nat→List Bool→List Item→Nat×List Item
 | 0,_,t=>(0,t)
 | m + 1,bs,t=>match stop t with
  | true=>(0,t)
  | false=>match KU t with
   | some t'=>let r:=CE stop m bs t'; (r.1 + 1,r.2)
   | none=>match t with
    | .code (.cond _ x y) :: k=>match bs with
     | []=>(0,t)
     | true :: bs=>let r:=CE stop m bs (.code x :: k); (r.1 + 1,r.2)
     | false :: bs=>let r:=CE stop m bs (.code y :: k); (r.1 + 1,r.2)
    | .code (.loop c) :: k=>let r:=CE stop m bs (.code c :: .inLoop c :: k); (r.1 + 1,r.2)
    | .inLoop c :: k=>let r:=CE stop m bs (.code c :: .inLoop c :: k); (r.1 + 1,r.2)
    | _=>(0,t)
def FK (T:TypeId):Op→Bool
 | .indexAddr t _ _=>t == T
 | _=>false
def GT:Next→Option Value
 | .value v=>some v
 | .skip=>some undef
 | _=>none
section
variable {P:Program} {ops:Array Oper} {Q:Exit→Act→World→Prop} {md:Region.Mode} {n:Nat} {E:Nat→Value}
theorem RS {listed:Array Bool} {fuel i:Nat} {w:World} (o:Oper) (M M':List BM) (hint:Nat×Nat) (z':Nat) (v:Value) (hr:Region.ready md ops listed=[i]) (ho:ops[i]?=some o) (hg:o.guard=none)
  (hL:C8 (M.map (·.id)) w.heap.size w ⟨w.heap.size,M,(0,0),[]⟩)
  (he:(CB P (execOp (BJ n E) o) ⟨w.heap.size,M,hint,[]⟩).map (fun p=>(GT p.1,p.2.mem,p.2.sz,p.2.eqs.map Prod.fst))=(CB P (execOp (BJ n E) o) ⟨w.heap.size,M,hint,[]⟩).map (fun p=>(some v,M',z',p.2.eqs.map Prod.snd)))
  (hs:(CB P (execOp (BJ n E) o) ⟨w.heap.size,M,hint,[]⟩).isSome=true)
  (hk:∀ w',C8 (M.map (·.id)) w.heap.size w' ⟨z',M',(0,0),[]⟩→Dh (M.map (·.id)) w.heap.size w w'→wpAny P md ops Q fuel (listed.setIfInBounds i true) (Fr n (BO E o.dst v)) w'):wpAny P md ops Q (fuel + 1) listed (Fr n E) w:=by
 cases hm:CB P (execOp (BJ n E) o) ⟨w.heap.size,M,hint,[]⟩ with
 | none=>rw [hm] at hs; cases hs
 | some p=>
  obtain ⟨r,ms'⟩:=p
  rw [hm] at he
  simp only [Option.map_some,Option.some.injEq,Prod.mk.injEq] at he
  obtain ⟨h1,h2,h3,h4⟩:=he
  refine Sa o ⟨w.heap.size,M,hint,[]⟩ ms' r v hr ho hg hm ?_ ⟨hL.sat,hL.le,hL.own⟩ h4 fun w' hL' hK=>hk w' (Qh hL' z' M' h3 h2) hK
  cases r <;> simp [GT] at h1
  ·exact .inl (by rw [h1])
  ·exact .inr ⟨rfl,h1.symm⟩
end
section
variable {P:Program} {ops:Array Oper} {Q:Exit→Act→World→Prop} {md:Region.Mode} {n:Nat} {E:Nat→Value}
theorem JY {listed:Array Bool} {fuel i:Nat} {w0 w:World} {M:List BM} {L T:List Th} (K:Wk w0 w M L T) (o:Oper) (M':List BM) (hint:Nat×Nat) (v:Value) (hk:∀ w',Wk w0 w' M' L T→wpAny P md ops Q fuel (listed.setIfInBounds i true) (Fr n (BO E o.dst v)) w') (hr:Region.ready md ops listed=[i]:=by kernel_rfl) (ho:ops[i]?=some o:=by kernel_rfl) (hg:o.guard=none:=by kernel_rfl) (he:(CB P (execOp (BJ n E) o) ⟨w.heap.size,M,hint,[]⟩).map (fun p=>(GT p.1,p.2.mem,p.2.eqs.map Prod.fst))=(CB P (execOp (BJ n E) o) ⟨w.heap.size,M,hint,[]⟩).map (fun p=>(some v,M',p.2.eqs.map Prod.snd)):=by kernel_rfl) (hs:(CB P (execOp (BJ n E) o) ⟨w.heap.size,M,hint,[]⟩).isSome=true:=by kernel_rfl) (hown:M'.all (·.own)=true:=by kernel_rfl):wpAny P md ops Q (fuel + 1) listed (Fr n E) w:=by
 cases hm:CB P (execOp (BJ n E) o) ⟨w.heap.size,M,hint,[]⟩ with
 | none=>rw [hm] at hs; cases hs
 | some p=>
  have he':=he
  rw [hm] at he'
  simp only [Option.map_some,Option.some.injEq,Prod.mk.injEq] at he'
  refine RS o M M' hint p.2.sz v hr ho hg K.H.lies ?_ hs fun w' hL hK=>hk w' ⟨K.B.trans (K.H.keptB hK),K.H.run hL hK hown⟩
  rw [hm]
  simp only [Option.map_some,Option.some.injEq,Prod.mk.injEq]
  exact ⟨he'.1,he'.2.1,trivial,he'.2.2⟩
theorem DW {listed:Array Bool} {fuel i:Nat} {w0 w:World} {M:List BM} {L T:List Th} (K:Wk w0 w M L T) (o:Oper) (hint:Nat×Nat) (v:Value)
  (hk:∀ w',Wk w0 w' (((CB P (execOp (BJ n E) o) ⟨w.heap.size,M,hint,[]⟩).map (·.2.mem)).getD []) L T→wpAny P md ops Q fuel (listed.setIfInBounds i true) (Fr n (BO E o.dst v)) w')
  (hr:Region.ready md ops listed=[i]:=by kernel_rfl) (ho:ops[i]?=some o:=by kernel_rfl) (hg:o.guard=none:=by kernel_rfl)
  (he:(CB P (execOp (BJ n E) o) ⟨w.heap.size,M,hint,[]⟩).map (fun p=>(GT p.1,p.2.eqs.map Prod.fst))=(CB P (execOp (BJ n E) o) ⟨w.heap.size,M,hint,[]⟩).map (fun p=>(some v,p.2.eqs.map Prod.snd)):=by kernel_rfl)
  (hs:(CB P (execOp (BJ n E) o) ⟨w.heap.size,M,hint,[]⟩).isSome=true:=by kernel_rfl) (hown:(((CB P (execOp (BJ n E) o) ⟨w.heap.size,M,hint,[]⟩).map (·.2.mem)).getD []).all (·.own)=true:=by kernel_rfl):wpAny P md ops Q (fuel + 1) listed (Fr n E) w:=by
 refine JY K o _ hint v hk hr ho hg ?_ hs hown
 cases hm:CB P (execOp (BJ n E) o) ⟨w.heap.size,M,hint,[]⟩ with
 | none=>rfl
 | some p=>
  rw [hm] at he
  simp only [Option.map_some,Option.some.injEq,Prod.mk.injEq,Option.getD_some,true_and] at he ⊢
  exact he
theorem C0 {listed:Array Bool} {fuel:Nat} {w:World} (l:List (Nat×Value)) (hk:∀ E',wpAny P md ops Q fuel listed (Fr n (CX E' l)) w) (h:l.map (fun p=>E p.1)=l.map (·.2):=by kernel_rfl):wpAny P md ops Q fuel listed (Fr n E) w:=by
 rw [← Jq h]
 exact hk E
theorem AN.runsK {o:Oper} {ρ:Operand→Value} {w:World} {K:Value→World→Prop} {O:List Nat} {B:Nat} (ms ms':MS) (r:Next) (v:Value) (hv:r=.value v∨(r=.skip∧v=undef)) (hL:C8 O B w ms) (he:ms'.eqs.map Prod.fst=ms'.eqs.map Prod.snd) (hk:∀ w',C8 O B w' ms'→Dh O B w w'→K v w') (hm:CB P (execOp ρ o) ms=some (r,ms'):=by kernel_rfl):AN P o ρ w K:=by
 have he':∀ p∈ms'.eqs,p.1=p.2:=fun p hp=>by
  obtain ⟨i,hi⟩:=List.mem_iff_getElem?.1 hp
  have h1:(ms'.eqs.map Prod.fst)[i]?=some p.1:=by rw [List.getElem?_map,hi]; rfl
  have h2:(ms'.eqs.map Prod.snd)[i]?=some p.2:=by rw [List.getElem?_map,hi]; rfl
  rw [he,h2] at h1
  exact (Option.some.inj h1).symm
 obtain ⟨w',h1,h2,h3,h4⟩:=Hd _ _ _ _ w hm hL.sat hL.le hL.own he'
 have hk':=hk w' ⟨h2,Nat.le_trans hL.le h3.size,h4⟩ h3
 unfold AN
 rw [h1]
 rcases hv with rfl | ⟨rfl,rfl⟩
 ·exact hk'
 ·exact hk'
end
section
variable {P:Program} {f:FuncId} {R:Ending→World→Prop}
theorem fE {n:Nat} {todo:List Item} {E:Nat→Value} {w:World} (hl:It todo=true) (h:At P f R (A4 todo) (Fr n E) w):At P f R todo (Fr n E) w:=by
 unfold It at hl
 split at hl
 ·rename_i c k
  exact DD (by simp) (fun _=>step_loop) h
 ·cases hl
theorem bB {n:Nat} {todo:List Item} {E:Nat→Value} {w:World} (hl:It todo=true) (h:At P f R (A4 todo) (Fr n E) w):At P f R (Ai todo) (Fr n E) w:=by
 unfold It at hl
 split at hl
 ·rename_i c k
  exact DD (by simp [Ai]) (fun _=>step_inLoop) h
 ·cases hl
end
theorem rowsEx.all0 {w:World} {A:Option Addr} {es:List Ex} (h:rowsEx w A es) (hne:0 < es.length):∃ g off,A=some ⟨g,off,none⟩∧g < w.heap.size∧∀ (i:Nat) e,es[i]?=some e→∃ A2 c2,w.rangeAt g (off + i * 10) (Bo e A2 c2)∧rowsEx w A2 e.ks:=
 h.all (fun hq=>by rw [hq] at hne; exact absurd hne (Nat.lt_irrefl _))
end Go.Proofs.YtmcpjkcggfmcmaaGreatDoor
namespace Go.Proofs.YtmcpjkcggfmcmaaGreatDoor
noncomputable section
open Go.RowKit
set_option maxRecDepth 100000
section
variable (P:Program) (n:Nat) (ops:Array Oper) (mem:List BM) (hints:List (Nat×Nat×Nat)) (specs:List Sp)
def Kb (hints:List (Nat×Nat×Nat)) (i:Nat):Nat×Nat:=match hints.find? (fun p=>p.1 == i) with
 | some p=>p.2
 | none=>(0,0)
def O7 (G:Nat→Value) (i:Nat):Value:=match Gi specs i with
 | some sp=>sp.v
 | none=>match (DH P (execOp (BJ n G) (ops.getD i default)) ⟨0,mem,Kb hints i,[]⟩).bind (fun r=>GT r.1) with
  | some v=>v
  | none=>undef
def HZ:List Nat→(Nat→Value)→Nat→Value
 | [],G=>G
 | i :: r,G=>HZ r (BO G (Dz ops i) (O7 P n ops mem hints specs G i))
def PB (i:Nat):List Nat→List Nat
 | []=>[]
 | j :: r=>match Nat.beq j i with
  | true=>[]
  | false=>j :: PB i r
def Jg (m:List Nat) (E:Nat→Value) (i:Nat):Nat→Value:=HZ P n ops mem hints specs (PB i m) E
def HW (m:List Nat) (E:Nat→Value) (i:Nat):Value:=O7 P n ops mem hints specs (Jg P n ops mem hints specs m E i) i
def Iv (m:List Nat):Wr:=m.filterMap fun i=>(Dz ops i).map fun t=>(t,i)
def ak (m:List Nat) (i:Nat):List Nat:=((ops.getD i default).looksAt ops).filterMap (Iv ops m).of
def kB (m:List Nat):Nat→Nat→List Nat
 | 0,i=>ak ops m i
 | k + 1,i=>ak ops m i++(ak ops m i).flatMap (kB m k)
def Qq (m:List Nat) (i:Nat):List Nat:=kB ops m 5 i
def IU (m:List Nat) (E:Nat→Value):List C3:=m.map fun i=>Ar i (Qq ops m i) (HW P n ops mem hints specs m E i)
def kA (m:List Nat) (E:Nat→Value) (X:Nat→Value) (i:Nat):Operand→Value
 | .tmp t=>match (Iv ops m).of t with
  | some j=>match (Qq ops m i).contains j with
   | true=>HW P n ops mem hints specs m E j
   | false=>X j
  | none=>BJ n E (.tmp t)
 | x=>BJ n E x
def eN (o:Oper):Bool:=match o.op with
 | .select _ _=>false
 | _=>true
def aj (m:List Nat) (E:Nat→Value) (X:Nat→Value) (i:Nat):List Value×List Value×Option (Option Value×List Nat):=
 ((ops.getD i default).op.operands.toList.map (kA P n ops mem hints specs m E X i),match Gi specs i with
  | some sp=>sp.l.map fun p=>BJ n (Jg P n ops mem hints specs m E i) (.tmp p.1)
  | none=>[],match Gi specs i with
  | some _=>none
  | none=>(DH P (execOp (BJ n (Jg P n ops mem hints specs m E i)) (ops.getD i default)) ⟨0,mem,Kb hints i,[]⟩).map fun r=>(GT r.1,r.2.eqs.map Prod.fst))
def VY (m:List Nat) (E:Nat→Value) (i:Nat):List Value×List Value×Option (Option Value×List Nat):=
 ((ops.getD i default).op.operands.toList.map (BJ n (Jg P n ops mem hints specs m E i)),match Gi specs i with
  | some sp=>sp.l.map (·.2)
  | none=>[],match Gi specs i with
  | some _=>none
  | none=>(DH P (execOp (BJ n (Jg P n ops mem hints specs m E i)) (ops.getD i default)) ⟨0,mem,Kb hints i,[]⟩).map fun r=>(some (HW P n ops mem hints specs m E i),r.2.eqs.map Prod.snd))
def KD (m:List Nat) (E:Nat→Value) (i:Nat):Bool:=eN (ops.getD i default) && match Gi specs i with
 | some sp=>sp.cond
 | none=>(DH P (execOp (BJ n (Jg P n ops mem hints specs m E i)) (ops.getD i default)) ⟨0,mem,Kb hints i,[]⟩).isSome
def Qp:List (Nat×Nat×Nat)→(Nat→Value)→List BM→Nat→Option ((Nat→Value)×List BM×Nat×List (Nat×Nat))
 | [],E,M,z=>some (E,M,z,[])
 | p :: r,E,M,z=>match CB P (execOp (BJ n E) (ops.getD p.1 default)) ⟨z,M,p.2,[]⟩ with
  | some (nx,ms')=>match GT nx,ms'.mem.all (·.own) with
   | some v,true=>match Qp r (BO E (ops.getD p.1 default).dst v) ms'.mem ms'.sz with
    | some q=>some (q.1,q.2.1,q.2.2.1,ms'.eqs++q.2.2.2)
    | none=>none
   | _,_=>none
  | none=>none
def Jz (md:Region.Mode):Array Bool→List Nat→Bool
 | listed,[]=>(Region.ready md ops listed).isEmpty
 | listed,i :: r=>(Region.ready md ops listed == [i]) && ((ops.getD i default).guard.isNone && (Nat.blt i ops.size && Jz md (listed.setIfInBounds i true) r))
end
section
variable {P:Program} {n:Nat} {ops:Array Oper} {mem:List BM} {hints:List (Nat×Nat×Nat)} {specs:List Sp}
theorem J7 {ρ:Operand→Value}:∀ {l:List (Tmp×Value)},l.map (fun p=>ρ (.tmp p.1))=l.map (·.2)→Gd ρ l
 | [],_=>trivial
 | p :: l,h=>⟨(List.cons.inj h).1,J7 (List.cons.inj h).2⟩
theorem AN.of_quiet {o:Oper} {ρ:Operand→Value} {w:World} {C:World→Prop} {v:Value} {K:Value→World→Prop} (h:Oper.quietUpon P C w v ((execOp ρ o).run P w)) (hc:C w) (hk:∀ w',C w'→K v w'):AN P o ρ w K:=by
 unfold AN
 unfold Oper.quietUpon at h
 split at h
 ·rename_i u w' he; obtain ⟨rfl,rfl⟩:=h; rw [he]; exact hk _ hc
 ·rename_i w' he; obtain ⟨rfl,rfl⟩:=h; rw [he]; exact hk _ hc
 ·rename_i g args w' he
  obtain ⟨rfl,h⟩:=h
  rw [he]
  exact h.mono fun e w'' ⟨h1,h2⟩=>⟨v,h1,hk w'' h2⟩
 ·exact h.elim
theorem JQ {m:List Nat} {E:Nat→Value} {vals:Nat→Value} {u:World} {B:List Nat}:∀ {l:List Nat},GY B vals u (l.map fun i=>Ar i (Qq ops m i) (HW P n ops mem hints specs m E i))→∀ j∈l,B.contains j=true→vals j=HW P n ops mem hints specs m E j
 | [],_,_,h,_=>by cases h
 | i :: l,hb,j,hj,hB=>by
  rw [List.map_cons] at hb
  unfold GY at hb
  rcases List.mem_cons.1 hj with rfl | hj
  ·rw [show (Ar j (Qq ops m j) (HW P n ops mem hints specs m E j)).idx=j from rfl,hB] at hb
   exact (List.cons.inj hb.1).1
  ·split at hb
   ·exact JQ hb.2 j hj hB
   ·exact JQ hb j hj hB
theorem LG {m:List Nat} {E:Nat→Value} {vals:Nat→Value} {u:World}:∀ {l:List Nat},Hl vals u (l.map fun i=>Ar i (Qq ops m i) (HW P n ops mem hints specs m E i))→∀ j∈l,vals j=HW P n ops mem hints specs m E j
 | [],_,_,h=>by cases h
 | i :: l,hb,j,hj=>by
  rw [List.map_cons] at hb
  unfold Hl at hb
  rcases List.mem_cons.1 hj with rfl | hj
  ·exact (List.cons.inj hb.1).1
  ·exact LG hb.2 j hj
theorem PA {i:Nat}:∀ {B C:List Nat},i∉B→PB i (B++i :: C)=B
 | [],C,_=>by
  show (match Nat.beq i i with | true=>[] | false=>i :: PB i C)=[]
  rw [Nat.beq_refl]
 | j :: B,C,h=>by
  have hj:Nat.beq j i=false:=by
   cases hb:Nat.beq j i with
   | false=>rfl
   | true=>exact absurd (by rw [Nat.eq_of_beq_eq_true hb]; simp) h
  rw [List.cons_append]
  unfold PB
  rw [hj,PA (fun hm=>h (by simp [hm]))]
theorem aq {m:List Nat} {E:Nat→Value} {vals:Nat→Value} (hn:m.Nodup) (hv:∀ j∈m,vals j=HW P n ops mem hints specs m E j):ar ops vals m E=HZ P n ops mem hints specs m E:=by
 have go:∀ (C B:List Nat),B++C=m→C.foldl (fun E i=>BO E (Dz ops i) (vals i)) (HZ P n ops mem hints specs B E)=HZ P n ops mem hints specs m E:=by
  intro C
  induction C with
  | nil=>intro B hB; rw [List.append_nil] at hB; rw [hB]; rfl
  | cons i C ih=>
   intro B hB
   have hi:i∈m:=by rw [← hB]; simp
   have hnb:i∉B:=fun hb=>by
    rw [← hB,List.nodup_append] at hn
    exact hn.2.2 i hb i (by simp) rfl
   rw [List.foldl_cons,hv i hi]
   have h2:HZ P n ops mem hints specs (B++[i]) E=BO (HZ P n ops mem hints specs B E) (Dz ops i) (HW P n ops mem hints specs m E i):=by
    have hsplit:∀ (B:List Nat) (G:Nat→Value),HZ P n ops mem hints specs (B++[i]) G=BO (HZ P n ops mem hints specs B G) (Dz ops i) (O7 P n ops mem hints specs (HZ P n ops mem hints specs B G) i):=by
     intro B
     induction B with
     | nil=>intro G; rfl
     | cons j B ihb=>intro G; exact ihb _
    rw [hsplit]
    unfold HW Jg
    rw [← hB,PA hnb]
   rw [← h2]
   exact ih (B++[i]) (by rw [List.append_assoc]; exact hB)
 exact go m [] rfl
theorem RR {Q:Exit→Act→World→Prop} {w0:World} {L T:List Th} {fuel:Nat}:∀ (l:List (Nat×Nat×Nat)) (listed:Array Bool) (E:Nat→Value) (M:List BM) (w:World) (K:Wk w0 w M L T) (z:Nat) (_:w.heap.size=z) (q:(Nat→Value)×List BM×Nat×List (Nat×Nat)),
  Qp P n ops l E M z=some q→(∀ p∈q.2.2.2,p.1=p.2)→Jz ops .any listed (l.map (·.1))=true→(∀ w' a,Wk w0 w' q.2.1 L T→a=Fr n q.1→Q .normal a w')→wpAny P .any ops Q (l.length + fuel) listed (Fr n E) w
 | [],listed,E,M,w,K,z,_,q,hq,_,hr,hk=>by
  obtain rfl:=Option.some.inj hq
  exact DV (hr:=(List.isEmpty_iff.1 hr)) (hk w _ K rfl)
 | p :: r,listed,E,M,w,K,z,hz,q,hq,he,hr,hk=>by
  subst hz
  rw [List.map_cons] at hr
  unfold Jz at hr
  rw [Bool.and_eq_true,Bool.and_eq_true,Bool.and_eq_true] at hr
  obtain ⟨h1,h2,h3,h4⟩:=hr
  have h1:=eq_of_beq h1
  have hlt:p.1 < ops.size:=Nat.le_of_ble_eq_true h3
  have ho:ops[p.1]?=some (ops.getD p.1 default):=by simp [Array.getD,hlt]
  unfold Qp at hq
  cases hm:CB P (execOp (BJ n E) (ops.getD p.1 default)) ⟨w.heap.size,M,p.2,[]⟩ with
  | none=>rw [hm] at hq; cases hq
  | some x=>
   obtain ⟨nx,ms'⟩:=x
   rw [hm] at hq
   simp only at hq
   split at hq
   ·rename_i v hv hown
    cases hg:Qp P n ops r (BO E (ops.getD p.1 default).dst v) ms'.mem ms'.sz with
    | none=>rw [hg] at hq; cases hq
    | some q'=>
     rw [hg] at hq
     obtain rfl:=Option.some.inj hq
     have he1:ms'.eqs.map Prod.fst=ms'.eqs.map Prod.snd:=List.map_congr_left fun y hy=>he y (List.mem_append_left _ hy)
     rw [show (p :: r).length + fuel=(r.length + fuel) + 1 by simp; omega]
     have hlies:C8 (M.map (·.id)) w.heap.size w ⟨w.heap.size,M,p.2,[]⟩:=by
      have:=K.H.lies
      exact ⟨this.sat,this.le,this.own⟩
     have hv':nx=.value v∨(nx=.skip∧v=undef):=by
      cases nx <;> simp [GT] at hv
      ·exact .inl (by rw [hv])
      ·exact .inr ⟨rfl,hv.symm⟩
     refine Sa (ops.getD p.1 default) ⟨w.heap.size,M,p.2,[]⟩ ms' nx v h1 ho (by simpa using h2) hm hv' hlies he1 fun w' hL' hK=>?_
     have K':Wk w0 w' ms'.mem L T:=⟨K.B.trans (K.H.keptB hK),K.H.run hL' hK hown⟩
     exact RR r _ _ _ w' K' ms'.sz hL'.sat.size q' hg (fun y hy=>he y (List.mem_append_right _ hy)) h4 hk
   ·cases hq
theorem SI {l:List (Nat×Nat)} (h:l.map Prod.fst=l.map Prod.snd):∀ p∈l,p.1=p.2:=fun p hp=>by
 obtain ⟨i,hi⟩:=List.mem_iff_getElem?.1 hp
 have h1:(l.map Prod.fst)[i]?=some p.1:=by rw [List.getElem?_map,hi]; rfl
 have h2:(l.map Prod.snd)[i]?=some p.2:=by rw [List.getElem?_map,hi]; rfl
 rw [h,h2] at h1
 exact (Option.some.inj h1).symm
def CC (P:Program) (n:Nat) (ops:Array Oper) (mem:List BM) (hints:List (Nat×Nat×Nat)) (specs:List Sp) (m:List Nat) (E:Nat→Value) (ts:List (Nat×Nat×Nat)) (M:List BM) (z:Nat):(Nat→Value)×List BM×Nat×List (Nat×Nat):=
 match Qp P n ops ts (HZ P n ops mem hints specs m E) M z with
 | some q=>q
 | none=>(E,[],0,[])
def XU (P:Program) (n:Nat) (ops:Array Oper) (mem:List BM) (hints:List (Nat×Nat×Nat)) (specs:List Sp) (m:List Nat) (E:Nat→Value) (X:Nat→Value):List (List Value×List Value×Option (Option Value×List Nat)):=m.map (aj P n ops mem hints specs m E X)
def Qr (P:Program) (n:Nat) (ops:Array Oper) (mem:List BM) (hints:List (Nat×Nat×Nat)) (specs:List Sp) (m:List Nat) (E:Nat→Value):List (List Value×List Value×Option (Option Value×List Nat)):=m.map (VY P n ops mem hints specs m E)
end
theorem Yk {P:Program} {f:FuncId} {R:Ending→World→Prop} {n:Nat} {todo:List Item} {E:Nat→Value} {w0 w:World} {M:List BM} {L T:List Th} (K:Wk w0 w M L T) {mem:List BM} (m:List Nat) (hints:List (Nat×Nat×Nat)) (specs:List Sp) (r:Nat)
  (hd:(Gn todo).isSome=true) (hmo:P.follows .mixedOrders=true) (hM:∀ e∈mem,e.good w) (hS:∀ sp∈specs,Fi P n (Below w.heap.size w) (BH todo) sp)
  (hok:(He .any (BH todo) (Iv (BH todo) m) (Array.replicate (BH todo).size false) n (IU P n (BH todo) mem hints specs m E) && bare (BH todo) (IU P n (BH todo) mem hints specs m E),m.all (KD P n (BH todo) mem hints specs m E),Nat.beq (m.length + r) (BH todo).size)=(true,true,true))
  (hp:∀ X,XU P n (BH todo) mem hints specs m E X=Qr P n (BH todo) mem hints specs m E)
  (hk:∀ u,Wk w0 u M L T→wpAny P .any (BH todo) (fun e a w=>e=.normal∧HJ P f R (AO todo) a w) r (m.foldl (fun b i=>b.setIfInBounds i true) (Array.replicate (BH todo).size false)) (Fr n (HZ P n (BH todo) mem hints specs m E)) u):At P f R todo (Fr n E) w:=by
 obtain ⟨ops,hops⟩:=Option.isSome_iff_exists.1 hd
 have hr:BH todo=ops:=by
  unfold Gn at hops
  split at hops
  ·obtain rfl:=Option.some.inj hops; rfl
  ·cases hops
 rw [hr] at hok hp hk hS
 simp only [Prod.mk.injEq] at hok
 obtain ⟨hok,hsm,hsz⟩:=hok
 have hN:m.length + r=ops.size:=Nat.eq_of_beq_eq_true hsz
 refine DY ops (hd:=hops) (hm:=hmo) (m.length + r) (hs:=hN.symm) ?_
 rw [hN]
 have parts:∀ l:List Nat,(∀ i∈l,i∈m)→I2 P ops n E (Iv ops m) (fun u=>Below w.heap.size w u) (fun _ _=>True) (IU P n ops mem hints specs m E) (l.map fun i=>Ar i (Qq ops m i) (HW P n ops mem hints specs m E i)):=by
  intro l
  induction l with
  | nil=>intro _; trivial
  | cons i l ih=>
   intro hl
   refine ⟨⟨fun _ _ _ _ _ h=>h,fun vals u hu hb=>?_⟩,ih fun j hj=>hl j (by simp [hj])⟩
   have him:=hl i (by simp)
   have hs:=List.all_eq_true.1 hsm i him
   unfold KD at hs
   rw [Bool.and_eq_true] at hs
   have hpi:aj P n ops mem hints specs m E vals i=VY P n ops mem hints specs m E i:=by
    have h1:=hp vals
    unfold XU Qr at h1
    exact (List.map_inj_left.1 h1) i him
   unfold aj VY at hpi
   simp only [Prod.mk.injEq] at hpi
   obtain ⟨hop,hkn,hrd2⟩:=hpi
   have hρ:∀ x∈(ops.getD i default).op.operands,FL n E (Iv ops m) vals x=BJ n (Jg P n ops mem hints specs m E i) x:=fun x hx=>by
    have h2:kA P n ops mem hints specs m E vals i x=BJ n (Jg P n ops mem hints specs m E i) x:=by
     have hx':x∈(ops.getD i default).op.operands.toList:=Array.mem_toList_iff.2 hx
     obtain ⟨k,hk2⟩:=List.mem_iff_getElem?.1 hx'
     have h3:=congrArg (fun l=>l[k]?) hop
     simp only [List.getElem?_map,hk2,Option.map_some,Option.some.injEq] at h3
     exact h3
    rw [← h2]
    cases x with
    | tmp t=>
     unfold FL kA
     cases hW:(Iv ops m).of t with
     | none=>simp only [hW]
     | some j=>
      simp only [hW]
      cases hc:(Qq ops m i).contains j with
      | false=>rfl
      | true=>
       have hj:j∈m:=by
        unfold Wr.of at hW
        obtain ⟨p,hp1,hp2⟩:=Option.map_eq_some_iff.1 hW
        have hmem:=List.mem_of_find?_eq_some hp1
        unfold Iv at hmem
        obtain ⟨k,hk1,hk2⟩:=List.mem_filterMap.1 hmem
        obtain ⟨t',_,rfl⟩:=Option.map_eq_some_iff.1 hk2
        rw [← hp2]
        exact hk1
       exact JQ hb j hj hc
    | _=>rfl
   have hsel:∀ cs b,(ops.getD i default).op≠.select cs b:=fun cs b hh=>by
    have:=hs.1
    unfold eN at this
    rw [hh] at this
    cases this
   show AN P (ops.getD i default) (FL n E (Iv ops m) vals) u _
   have hcg:∀ K',AN P (ops.getD i default) (BJ n (Jg P n ops mem hints specs m E i)) u K'→AN P (ops.getD i default) (FL n E (Iv ops m) vals) u K':=fun K' h=>by
    unfold AN at h ⊢
    rw [execOp_congr _ hsel hρ]
    exact h
   refine hcg _ ?_
   cases hsp:Gi specs i with
   | some sp=>
    rw [hsp] at hkn hs
    have hmem:=I7 hsp
    have hi:=hmem.2
    have hq2:=hS sp hmem.1 hs.2 (Jg P n ops mem hints specs m E i) (J7 hkn) u hu
    rw [hi] at hq2
    refine AN.of_quiet hq2 hu fun w' hw'=>⟨hw',trivial,?_⟩
    show [FW vals i sp.v i]=[HW P n ops mem hints specs m E i]
    unfold FW HW O7
    rw [hsp,if_pos rfl]
   | none=>
    rw [hsp] at hrd2 hs
    simp only at hrd2 hs
    obtain ⟨x,hx⟩:=Option.isSome_iff_exists.1 hs.2
    rw [hx] at hrd2
    simp only [Option.map_some,Option.some.injEq,Prod.mk.injEq] at hrd2
    obtain ⟨nx,ms'⟩:=x
    have hout:=hrd2.1
    cases nx with
    | value v=>
     simp only [GT,Option.some.injEq] at hout
     refine AN.reads ⟨0,mem,Kb hints i,[]⟩ (Au hM hu) v (hv:=by rw [hx]; rfl) (he:=by rw [hx]; exact congrArg some hrd2.2) ⟨hu,trivial,?_⟩
     show [FW vals i v i]=[HW P n ops mem hints specs m E i]
     unfold FW
     rw [if_pos rfl,hout]
    | skip=>
     simp only [GT,Option.some.injEq] at hout
     have hl2:(DH P (execOp (BJ n (Jg P n ops mem hints specs m E i)) (ops.getD i default)) ⟨0,mem,Kb hints i,[]⟩)=some (.skip,ms'):=hx
     have hrun:=GX (w:=u) _ _ _ _ hl2 (Au hM hu) (SI hrd2.2)
     unfold AN
     rw [hrun]
     refine ⟨hu,trivial,?_⟩
     show [FW vals i undef i]=[HW P n ops mem hints specs m E i]
     unfold FW
     rw [if_pos rfl,hout]
    | enter _ _=>simp [GT] at hout
    | _=>simp [GT] at hout
 have hlen:(IU P n ops mem hints specs m E).length=m.length:=by unfold IU; rw [List.length_map]
 have hidx:(IU P n ops mem hints specs m E).map (·.idx)=m:=by unfold IU; rw [List.map_map]; exact List.map_id _
 have hnd:m.Nodup:=by
  have:=LD (by have h:=hok; rw [Bool.and_eq_true] at h; exact h.1)
  rw [← hidx]; exact this.nodup
 refine Ce (md:=.any) (fuel:=r) (L:=IU P n ops mem hints specs m E) (W:=Iv ops m) (C:=fun u=>Below w.heap.size w u) (Ext:=fun _ _=>True) (hok:=hok) (Below.refl _ _).drew (fun _=>trivial) (fun _ _ _ _ _=>trivial) (parts m fun i hi=>hi) (by rw [hlen,hN]) fun vals u hu _ hall=>?_
 rw [hidx,aq (mem:=mem) (hints:=hints) (specs:=specs) (P:=P) (n:=n) hnd (fun j hj=>LG hall j hj)]
 exact hk u (K.below hu)
theorem kH {P:Program} {f:FuncId} {R:Ending→World→Prop} {n:Nat} {todo:List Item} {E:Nat→Value} {w0 w:World} {M:List BM} {L T:List Th} (K:Wk w0 w M L T) {mem:List BM} (m:List Nat) (hints:List (Nat×Nat×Nat)) (specs:List Sp) (ts:List (Nat×Nat×Nat)) (M':Nat→List BM)
  (hd:(Gn todo).isSome=true) (hmo:P.follows .mixedOrders=true) (hM:∀ e∈mem,e.good w) (hS:∀ sp∈specs,Fi P n (Below w.heap.size w) (BH todo) sp)
  (hok:(He .any (BH todo) (Iv (BH todo) m) (Array.replicate (BH todo).size false) n (IU P n (BH todo) mem hints specs m E) && bare (BH todo) (IU P n (BH todo) mem hints specs m E),m.all (KD P n (BH todo) mem hints specs m E),Nat.beq (m.length + ts.length) (BH todo).size,Jz (BH todo) .any (m.foldl (fun b i=>b.setIfInBounds i true) (Array.replicate (BH todo).size false)) (ts.map (·.1)))=(true,true,true,true))
  (hp:∀ X,XU P n (BH todo) mem hints specs m E X=Qr P n (BH todo) mem hints specs m E)
  (ht:∀ z,((Qp P n (BH todo) ts (HZ P n (BH todo) mem hints specs m E) M z).isSome,(CC P n (BH todo) mem hints specs m E ts M z).2.1,(CC P n (BH todo) mem hints specs m E ts M z).2.2.2.map Prod.fst)=(true,M' z,(CC P n (BH todo) mem hints specs m E ts M z).2.2.2.map Prod.snd))
  (hk:∀ z w',Wk w0 w' (M' z) L T→At P f R (AO todo) (Fr n (CC P n (BH todo) mem hints specs m E ts M z).1) w'):At P f R todo (Fr n E) w:=by
 simp only [Prod.mk.injEq] at hok
 obtain ⟨h1,h2,h3,hrd⟩:=hok
 refine Yk K m hints specs ts.length hd hmo hM hS (by rw [h1,h2,h3]) hp fun u Ku=>?_
 have htu:=ht u.heap.size
 simp only [Prod.mk.injEq] at htu
 obtain ⟨hts,ht1,ht2⟩:=htu
 obtain ⟨q,hq⟩:=Option.isSome_iff_exists.1 hts
 have hE:CC P n (BH todo) mem hints specs m E ts M u.heap.size=q:=by unfold CC; rw [hq]
 have hku:=hk u.heap.size
 rw [hE] at ht1 ht2 hku
 exact RR (P:=P) (n:=n) (ops:=BH todo) (L:=L) (T:=T) (w0:=w0) (fuel:=0) (Q:=fun e a w=>e=.normal∧HJ P f R (AO todo) a w) ts _ _ M u Ku u.heap.size rfl q hq (SI ht2) hrd fun w' a K' ha=>⟨rfl,by rw [ha]; rw [ht1] at K'; exact (hku w' K').mid⟩
theorem HH {P:Program} {f:FuncId} {R:Ending→World→Prop} {n:Nat} {todo:List Item} {E:Nat→Value} {w0 w:World} {M:List BM} {L T:List Th} (K:Wk w0 w M L T) {mem:List BM} (m:List Nat) (hints:List (Nat×Nat×Nat)) (specs:List Sp) (ts:List (Nat×Nat×Nat)) (hM:∀ e∈mem,e.good w) (hS:∀ sp∈specs,Fi P n (Below w.heap.size w) (BH todo) sp) (hk:∀ z w',Wk w0 w' (CC P n (BH todo) mem hints specs m E ts M z).2.1 L T→At P f R (AO todo) (Fr n (CC P n (BH todo) mem hints specs m E ts M z).1) w') (hd:(Gn todo).isSome=true:=by kernel_rfl) (hmo:P.follows .mixedOrders=true:=by kernel_rfl) (hok:(He .any (BH todo) (Iv (BH todo) m) (Array.replicate (BH todo).size false) n (IU P n (BH todo) mem hints specs m E) && bare (BH todo) (IU P n (BH todo) mem hints specs m E),m.all (KD P n (BH todo) mem hints specs m E),Nat.beq (m.length + ts.length) (BH todo).size,Jz (BH todo) .any (m.foldl (fun b i=>b.setIfInBounds i true) (Array.replicate (BH todo).size false)) (ts.map (·.1)))=(true,true,true,true):=by kernel_rfl) (hp:∀ X,XU P n (BH todo) mem hints specs m E X=Qr P n (BH todo) mem hints specs m E:=by intro _; kernel_rfl) (ht:∀ z,((Qp P n (BH todo) ts (HZ P n (BH todo) mem hints specs m E) M z).isSome,(CC P n (BH todo) mem hints specs m E ts M z).2.1,(CC P n (BH todo) mem hints specs m E ts M z).2.2.2.map Prod.fst)=(true,(CC P n (BH todo) mem hints specs m E ts M z).2.1,(CC P n (BH todo) mem hints specs m E ts M z).2.2.2.map Prod.snd):=by intro _; kernel_rfl):At P f R todo (Fr n E) w:=kH K m hints specs ts (fun z=>(CC P n (BH todo) mem hints specs m E ts M z).2.1) hd hmo hM hS hok hp ht hk
end
end Go.Proofs.YtmcpjkcggfmcmaaGreatDoor

/- Contracts of functions, part 7. -/
import Derived.Test.YtkpemkkbjfbmaaaGreatMc06
set_option linter.all false
namespace Go.Proofs.YtkpemkkbjfbmaaaGreat
open List
noncomputable section
open Go.RowKit
set_option maxRecDepth 100000
set_option maxHeartbeats 1000000
section
variable (P:Program) (n:Nat) (ops:Array Oper) (mem:List Ax) (hints:List (Nat×Nat×Nat)) (specs:List Sp)
def Ih (hints:List (Nat×Nat×Nat)) (i:Nat):Nat×Nat:=match hints.find? (λp=>p.1==i)with
 | some p=>p.2
 | none=>(0,0)
def Mz (G:Nat->Value) (i:Nat):Value:=match Hh specs i with
 | some sp=>sp.v
 | none=>match (Dp P (execOp (BK n G) (ops.getD i default)) ⟨0,mem,Ih hints i,[]⟩).bind (λr=>EK r.1)with
  | some v=>v
  | none=>undef
def DW:List Nat->(Nat->Value)->Nat->Value
 | [],G=>G
 | i::r,G=>DW r (A8 G (C6 ops i) (Mz P n ops mem hints specs G i))
def Un (i:Nat):List Nat->List Nat
 | []=>[]
 | j::r=>match Nat.beq j i with
  | true=>[]
  | false=>j::Un i r
def Ew (m:List Nat) (E:Nat->Value) (i:Nat):Nat->Value:=DW P n ops mem hints specs (Un i m) E
def D6 (m:List Nat) (E:Nat->Value) (i:Nat):Value:=Mz P n ops mem hints specs (Ew P n ops mem hints specs m E i) i
def Dk (m:List Nat):Wr:=m.filterMap λi=>(C6 ops i).map λt=>(t,i)
def ql (m:List Nat) (i:Nat):List Nat:=((ops.getD i default).looksAt ops).filterMap (Dk ops m).of
def ACh (m:List Nat):Nat->Nat->List Nat
 | 0,i=>ql ops m i
 | k+1,i=>ql ops m i++(ql ops m i).flatMap (ACh m k)
def Eu (m:List Nat) (i:Nat):List Nat:=ACh ops m 5 i
def FH (m:List Nat) (E:Nat->Value):List DA:=m.map λi=>Av i (Eu ops m i) (D6 P n ops mem hints specs m E i)
def NP (m:List Nat) (E:Nat->Value) (X:Nat->Value) (i:Nat):Operand->Value
 | .tmp t=>match (Dk ops m).of t with
  | some j=>match (Eu ops m i).contains j with
   | true=>D6 P n ops mem hints specs m E j
   | false=>X j
  | none=>BK n E (.tmp t)
 | x=>BK n E x
def KQ (o:Oper):Bool:=match o.op with
 | .select _ _=>false
 | _=>true
def M1 (m:List Nat) (E:Nat->Value) (X:Nat->Value) (i:Nat):List Value×List Value×Option (Option Value×List Nat):=
 ((ops.getD i default).op.operands.toList.map (NP P n ops mem hints specs m E X i),match Hh specs i with
  | some sp=>sp.l.map λp=>BK n (Ew P n ops mem hints specs m E i) (.tmp p.1)
  | none=>[],match Hh specs i with
  | some _=>none
  | none=>(Dp P (execOp (BK n (Ew P n ops mem hints specs m E i)) (ops.getD i default)) ⟨0,mem,Ih hints i,[]⟩).map λr=>(EK r.1,r.2.eqs.map Prod.fst))
def KY (m:List Nat) (E:Nat->Value) (i:Nat):List Value×List Value×Option (Option Value×List Nat):=
 ((ops.getD i default).op.operands.toList.map (BK n (Ew P n ops mem hints specs m E i)),match Hh specs i with
  | some sp=>sp.l.map (·.2)
  | none=>[],match Hh specs i with
  | some _=>none
  | none=>(Dp P (execOp (BK n (Ew P n ops mem hints specs m E i)) (ops.getD i default)) ⟨0,mem,Ih hints i,[]⟩).map λr=>(some (D6 P n ops mem hints specs m E i),r.2.eqs.map Prod.snd))
def GN (m:List Nat) (E:Nat->Value) (i:Nat):Bool:=KQ (ops.getD i default)&&match Hh specs i with
 | some sp=>sp.cond
 | none=>(Dp P (execOp (BK n (Ew P n ops mem hints specs m E i)) (ops.getD i default)) ⟨0,mem,Ih hints i,[]⟩).isSome
def EH:List (Nat×Nat×Nat)->(Nat->Value)->List Ax->Nat->Option ((Nat->Value)×List Ax×Nat×List (Nat×Nat))
 | [],E,M,z=>some (E,M,z,[])
 | p::r,E,M,z=>match Ce P (execOp (BK n E) (ops.getD p.1 default)) ⟨z,M,p.2,[]⟩with
  | some (nx,ms')=>match EK nx,ms'.mem.all (·.own)with
   | some v,true=>match EH r (A8 E (ops.getD p.1 default).dst v) ms'.mem ms'.sz with
    | some q=>some (q.1,q.2.1,q.2.2.1,ms'.eqs++q.2.2.2)
    | none=>none
   | _,_=>none
  | none=>none
def Jq (md:Region.Mode):Array Bool->List Nat->Bool
 | listed,[]=>(Region.ready md ops listed).isEmpty
 | listed,i::r=>(Region.ready md ops listed==[i])&&((ops.getD i default).guard.isNone&&(Nat.blt i ops.size&&Jq md (listed.setIfInBounds i true) r))
end
section
variable {P:Program} {n:Nat} {ops:Array Oper} {mem:List Ax} {hints:List (Nat×Nat×Nat)} {specs:List Sp}
theorem JF {ρ:Operand->Value}:∀ {l:List (Tmp×Value)},l.map (λp=>ρ (.tmp p.1))=l.map (·.2)->He ρ l
 | [],_=>trivial
 | p::l,h=>⟨(List.cons.inj h).1,JF (List.cons.inj h).2⟩
theorem AL.of_quiet {o:Oper} {ρ:Operand->Value} {w:World} {C:World->Prop} {v:Value} {K:Value->World->Prop} (h:Oper.quietUpon P C w v ((execOp ρ o).run P w)) (hc:C w) (b:∀w',C w'->K v w'):AL P o ρ w K:=by
 unfold AL;unfold Oper.quietUpon at h
 split at h
 ·rename_i u w' he;obtain⟨rfl,rfl⟩:=h;rw[he];exact b _ hc
 ·rename_i w' he;obtain⟨rfl,rfl⟩:=h;rw[he];exact b _ hc
 ·rename_i g args w' he
  obtain⟨rfl,h⟩:=h;rw[he];exact h.mono λe a ⟨c,h2⟩=>⟨v,c,b a h2⟩
 exact h.elim
theorem JG {m:List Nat} {E:Nat->Value} {vals:Nat->Value} {u:World} {B:List Nat}:∀ {l:List Nat},Fz B vals u (l.map λi=>Av i (Eu ops m i) (D6 P n ops mem hints specs m E i))->∀j∈l,B.contains j=true->vals j=D6 P n ops mem hints specs m E j
 | [],_,_,h,_=>by cases h
 | i::l,hb,j,a,hB=>by
  rw[map_cons]at hb;unfold Fz at hb;rcases mem_cons.1 a with rfl | a
  ·rw[show(Av j (Eu ops m j) (D6 P n ops mem hints specs m E j)).idx=j from rfl,hB]at hb;exact(List.cons.inj hb.1).1
  split at hb
  ·exact JG hb.2 j a hB
  exact JG hb j a hB
theorem Jk {m:List Nat} {E:Nat->Value} {vals:Nat->Value} {u:World}:∀ {l:List Nat},Fq vals u (l.map λi=>Av i (Eu ops m i) (D6 P n ops mem hints specs m E i))->∀j∈l,vals j=D6 P n ops mem hints specs m E j
 | [],_,_,h=>by cases h
 | i::l,hb,j,a=>by
  rw[map_cons]at hb;unfold Fq at hb;rcases mem_cons.1 a with rfl | a
  ·exact(List.cons.inj hb.1).1
  exact Jk hb.2 j a
theorem Um {i:Nat}:∀ {B C:List Nat},i∉B->Un i (B++i::C)=B
 | [],C,_=>by show(match Nat.beq i i with | true=>[] | false=>i::Un i C)=[];rw[Nat.beq_refl]
 | j::B,C,h=>by
  have a:Nat.beq j i=false:=by
   cases hb:Nat.beq j i with
   | false=>rfl
   | true=>exact absurd (by rw[Nat.eq_of_beq_eq_true hb];simp) h
  rw[cons_append];unfold Un;rw[a,Um (λhm=>h (by simp[hm]))]
theorem M9 {m:List Nat} {E:Nat->Value} {vals:Nat->Value} (hn:m.Nodup) (hv:∀j∈m,vals j=D6 P n ops mem hints specs m E j):Ly ops vals m E=DW P n ops mem hints specs m E:=by
 have go:∀(C B:List Nat),B++C=m->C.foldl (λE i=>A8 E (C6 ops i) (vals i)) (DW P n ops mem hints specs B E)=DW P n ops mem hints specs m E:=by
  intro C
  induction C with
  | nil=>intro B b;rw[append_nil]at b;rw[b];rfl
  | cons i C ih=>
   intro B b;have hi:i∈m:=by rw[<-b];simp
   have c:i∉B:=λhb=>by rw[<-b,nodup_append]at hn;exact hn.2.2 i hb i (by simp) rfl
   rw[foldl_cons,hv i hi];have h2:DW P n ops mem hints specs (B++[i]) E=A8 (DW P n ops mem hints specs B E) (C6 ops i) (D6 P n ops mem hints specs m E i):=by
    have a:∀(B:List Nat) (G:Nat->Value),DW P n ops mem hints specs (B++[i]) G=A8 (DW P n ops mem hints specs B G) (C6 ops i) (Mz P n ops mem hints specs (DW P n ops mem hints specs B G) i):=by
     intro B
     induction B with
     | nil=>intro G;rfl
     | cons j B ihb=>intro G;exact ihb _
    rw[a];unfold D6 Ew;rw[<-b,Um c]
   rw[<-h2];exact ih (B++[i]) (by rw[append_assoc];exact b)
 exact go m [] rfl
theorem LW {Q:Exit->Act->World->Prop} {w0:World} {L T:List Th} {fuel:Nat}:∀(l:List (Nat×Nat×Nat)) (b:Array Bool) (E:Nat->Value) (M:List Ax) (w:World) (K:Wk w0 w M L T) (z:Nat) (_:(U w)=z) (q:(Nat->Value)×List Ax×Nat×List (Nat×Nat)),
  EH P n ops l E M z=some q->(∀p∈q.2.2.2,p.1=p.2)->Jq ops .any b (l.map (·.1))=true->(∀w' a,Wk w0 w' q.2.1 L T->a=Fr n q.1->Q .normal a w')->wpAny P .any ops Q (l.length+fuel) b (Fr n E) w
 | [],b,E,M,w,K,z,_,q,hq,_,hr,hk=>by obtain rfl:=Option.some.inj hq;exact Dm (hr:=(isEmpty_iff.1 hr)) (hk w _ K rfl)
 | p::r,b,E,M,w,K,z,hz,q,hq,he,hr,hk=>by
  subst hz;rw[map_cons]at hr;unfold Jq at hr;rw[Bool.and_eq_true,Bool.and_eq_true,Bool.and_eq_true]at hr;obtain⟨k,h2,s,o⟩:=hr;have k:=eq_of_beq k;have i:p.1<ops.size:=Nat.le_of_ble_eq_true s;have ho:ops[p.1]?=some (ops.getD p.1 default):=by simp[Array.getD,i]
  unfold EH at hq
  cases hm:Ce P (execOp (BK n E) (ops.getD p.1 default)) ⟨U w,M,p.2,[]⟩with
  | none=>rw[hm]at hq;cases hq
  | some x=>
   obtain⟨f,c⟩:=x;rw[hm]at hq;simp only at hq
   split at hq
   ·rename_i v hv hown
    cases hg:EH P n ops r (A8 E (ops.getD p.1 default).dst v) c.mem c.sz with
    | none=>rw[hg]at hq;cases hq
    | some q'=>
     rw[hg]at hq;obtain rfl:=Option.some.inj hq;have j:c.eqs.map Prod.fst=c.eqs.map Prod.snd:=map_congr_left λy g=>he y (mem_append_left _ g);rw[show(p::r).length+fuel=(r.length+fuel)+1 by simp;omega];have d:En (M.map (·.id)) (U w) w ⟨U w,M,p.2,[]⟩:=by have:=K.H.lies;exact⟨this.sat,this.le,this.own⟩
     have h:f=.value v\/(f=.skip/\v=undef):=by
      cases f<;>simp[EK]at hv
      ·exact .inl (by rw[hv])
      exact .inr ⟨rfl,hv.symm⟩
     refine bA (ops.getD p.1 default) ⟨U w,M,p.2,[]⟩ c f v k ho (by simpa using h2) hm h d j λw' e m=>?_;have t:Wk w0 w' c.mem L T:=⟨K.B.trans (K.H.keptB m),K.H.run e m hown⟩;exact LW r _ _ _ w' t c.sz e.sat.size q' hg (λy g=>he y (mem_append_right _ g)) o hk
   cases hq
theorem I0 {l:List (Nat×Nat)} (h:l.map Prod.fst=l.map Prod.snd):∀p∈l,p.1=p.2:=λp b=>by
 obtain⟨i,hi⟩:=mem_iff_getElem?.1 b;have a:(l.map Prod.fst)[i]?=some p.1:=by rw[getElem?_map,hi];rfl
 have h2:(l.map Prod.snd)[i]?=some p.2:=by rw[getElem?_map,hi];rfl
 rw[h,h2]at a;exact(Option.some.inj a).symm
def BX (P:Program) (n:Nat) (ops:Array Oper) (mem:List Ax) (hints:List (Nat×Nat×Nat)) (specs:List Sp) (m:List Nat) (E:Nat->Value) (ts:List (Nat×Nat×Nat)) (M:List Ax) (z:Nat):(Nat->Value)×List Ax×Nat×List (Nat×Nat):=
 match EH P n ops ts (DW P n ops mem hints specs m E) M z with
 | some q=>q
 | none=>(E,[],0,[])
def Li (P:Program) (n:Nat) (ops:Array Oper) (mem:List Ax) (hints:List (Nat×Nat×Nat)) (specs:List Sp) (m:List Nat) (E:Nat->Value) (X:Nat->Value):List (List Value×List Value×Option (Option Value×List Nat)):=m.map (M1 P n ops mem hints specs m E X)
def JH (P:Program) (n:Nat) (ops:Array Oper) (mem:List Ax) (hints:List (Nat×Nat×Nat)) (specs:List Sp) (m:List Nat) (E:Nat->Value):List (List Value×List Value×Option (Option Value×List Nat)):=m.map (KY P n ops mem hints specs m E)
end
theorem bC {P:Program} {n:Nat} {ops:Array Oper} {Q:Exit->Act->World->Prop} {a:Array Bool} {E:Nat->Value} {w0 w w1:World} {M:List Ax} {L T:List Th} (K:Wk w0 w M L T) (r0:Below (U w) w w1) {mem:List Ax} (m:List Nat) (hints:List (Nat×Nat×Nat)) (specs:List Sp) (r:Nat)
  (hM:∀e∈mem,e.good w) (hS:∀sp∈specs,F1 P n (Below (U w) w) ops sp)
  (hok:(F4 .any ops (Dk ops m) a n (FH P n ops mem hints specs m E)&&It ops (FH P n ops mem hints specs m E))=true) (i0:m.all (GN P n ops mem hints specs m E)=true)
  (hp:∀X,Li P n ops mem hints specs m E X=JH P n ops mem hints specs m E)
  (hk:∀u,Wk w0 u M L T->wpAny P .any ops Q r (m.foldl (λb i=>b.setIfInBounds i true) a) (Fr n (DW P n ops mem hints specs m E)) u):wpAny P .any ops Q (m.length+r) a (Fr n E) w1:=by
 have parts:∀l:List Nat,(∀i∈l,i∈m)->Jy P ops n E (Dk ops m) (λu=>Below (U w) w u) (λ_ _=>True) (FH P n ops mem hints specs m E) (l.map λi=>Av i (Eu ops m i) (D6 P n ops mem hints specs m E i)):=by
  intro l
  induction l with
  | nil=>intro _;trivial
  | cons i l ih=>
   intro hl;refine⟨⟨λ_ _ _ _ _ h=>h,λvals u hu hb=>?_⟩,ih λj hj=>hl j (by simp[hj])⟩;have c0:=hl i (by simp);have hs:=all_eq_true.1 i0 i c0;unfold GN at hs;rw[Bool.and_eq_true]at hs;have o:M1 P n ops mem hints specs m E vals i=KY P n ops mem hints specs m E i:=by have h1:=hp vals;unfold Li JH at h1;exact(map_inj_left.1 h1) i c0
   unfold M1 KY at o;simp only[Prod.mk.injEq]at o;obtain⟨hop,b0,c⟩:=o;have hρ:∀x∈(ops.getD i default).op.operands,DE n E (Dk ops m) vals x=BK n (Ew P n ops mem hints specs m E i) x:=λx hx=>by
    have h2:NP P n ops mem hints specs m E vals i x=BK n (Ew P n ops mem hints specs m E i) x:=by have g0:x∈(ops.getD i default).op.operands.toList:=Array.mem_toList_iff.2 hx;obtain⟨k,q⟩:=mem_iff_getElem?.1 g0;have h3:=congrArg (λl=>l[k]?) hop;simp only[getElem?_map,q,Option.map_some,Option.some.injEq]at h3;exact h3
    rw[<-h2]
    cases x with
    | tmp t=>
     unfold DE NP
     cases hW:(Dk ops m).of t with
     | none=>simp only[hW]
     | some j=>
      simp only[hW]
      cases hc:(Eu ops m i).contains j with
      | false=>rfl
      | true=>
       have hj:j∈m:=by unfold Wr.of at hW;obtain⟨p,k0,j0⟩:=Option.map_eq_some_iff.1 hW;have f:=mem_of_find?_eq_some k0;unfold Dk at f;obtain⟨k,p0,q⟩:=mem_filterMap.1 f;obtain⟨t',_,rfl⟩:=Option.map_eq_some_iff.1 q;rw[<-j0];exact p0
       exact JG hb j hj hc
    | _=>rfl
   have s:∀cs b,(ops.getD i default).op≠.select cs b:=λcs b hh=>by
    have:=hs.1;unfold KQ at this;rw[hh]at this
    cases this
   show AL P (ops.getD i default) (DE n E (Dk ops m) vals) u _;have q0:∀K',AL P (ops.getD i default) (BK n (Ew P n ops mem hints specs m E i)) u K'->AL P (ops.getD i default) (DE n E (Dk ops m) vals) u K':=λK' h=>by unfold AL at h ⊢;rw[execOp_congr _ s hρ];exact h
   refine q0 _ ?_
   cases hsp:Hh specs i with
   | some sp=>
    rw[hsp]at b0 hs;have f:=JT hsp;have hi:=f.2;have z:=hS sp f.1 hs.2 (Ew P n ops mem hints specs m E i) (JF b0) u hu;rw[hi]at z;refine AL.of_quiet z hu λw' h0=>⟨h0,trivial,?_⟩;show[EM vals i sp.v i]=[D6 P n ops mem hints specs m E i];unfold EM D6 Mz;rw[hsp,if_pos rfl]
   | none=>
    rw[hsp]at c hs;simp only at c hs;obtain⟨x,hx⟩:=Option.isSome_iff_exists.1 hs.2;rw[hx]at c;simp only[Option.map_some,Option.some.injEq,Prod.mk.injEq]at c;obtain⟨nx,e0⟩:=x;have d:=c.1
    cases nx with
    | value v=>
     simp only[EK,Option.some.injEq]at d;refine AL.reads ⟨0,mem,Ih hints i,[]⟩ (BG hM hu) v (hv:=by rw[hx];rfl) (he:=by rw[hx];exact congrArg some c.2) ⟨hu,trivial,?_⟩;show[EM vals i v i]=[D6 P n ops mem hints specs m E i];unfold EM;rw[if_pos rfl,d]
    | skip=>
     simp only[EK,Option.some.injEq]at d;have m0:(Dp P (execOp (BK n (Ew P n ops mem hints specs m E i)) (ops.getD i default)) ⟨0,mem,Ih hints i,[]⟩)=some (.skip,e0):=hx;have y:=GK (w:=u) _ _ _ _ m0 (BG hM hu) (I0 c.2);unfold AL;rw[y];refine⟨hu,trivial,?_⟩;show[EM vals i undef i]=[D6 P n ops mem hints specs m E i];unfold EM;rw[if_pos rfl,d]
    | enter _ _=>simp[EK]at d
    | _=>simp[EK]at d
 have a0:(FH P n ops mem hints specs m E).length=m.length:=by unfold FH;rw[length_map]
 have g:(FH P n ops mem hints specs m E).map (·.idx)=m:=by unfold FH;rw[map_map];exact map_id _
 have l0:m.Nodup:=by have:=FF (by have h:=hok;rw[Bool.and_eq_true]at h;exact h.1);rw[<-g];exact this.nodup
 refine Cm (md:=.any) (fuel:=r) (L:=FH P n ops mem hints specs m E) (W:=Dk ops m) (C:=λu=>Below (U w) w u) (Ext:=λ_ _=>True) (hok:=hok) r0 (λ_=>trivial) (λ_ _ _ _ _=>trivial) (parts m λi hi=>hi) (by rw[a0]) λvals u hu _ d0=>?_;rw[g,M9 (mem:=mem) (hints:=hints) (specs:=specs) (P:=P) (n:=n) l0 (λj hj=>Jk d0 j hj)];exact hk u (K.below hu)
theorem ACy {P:Program} {f:FuncId} {R:Ending->World->Prop} {n:Nat} {todo:List Item} {E:Nat->Value} {w0 w:World} {M:List Ax} {L T:List Th} (K:Wk w0 w M L T) {mem:List Ax} (m:List Nat) (hints:List (Nat×Nat×Nat)) (specs:List Sp) (r:Nat)
  (hd:(GB todo).isSome=true) (h:P.follows .mixedOrders=true) (p:∀e∈mem,e.good w) (l:∀sp∈specs,F1 P n (Below (U w) w) (Ak todo) sp)
  (hok:(F4 .any (Ak todo) (Dk (Ak todo) m) (Array.replicate (Ak todo).size false) n (FH P n (Ak todo) mem hints specs m E)&&It (Ak todo) (FH P n (Ak todo) mem hints specs m E),m.all (GN P n (Ak todo) mem hints specs m E),Nat.beq (m.length+r) (Ak todo).size)=(true,true,true))
  (k:∀X,Li P n (Ak todo) mem hints specs m E X=JH P n (Ak todo) mem hints specs m E)
  (j:∀u,Wk w0 u M L T->wpAny P .any (Ak todo) (λe a w=>e=.normal/\IM P f R (AO todo) a w) r (m.foldl (λb i=>b.setIfInBounds i true) (Array.replicate (Ak todo).size false)) (Fr n (DW P n (Ak todo) mem hints specs m E)) u):At P f R todo (Fr n E) w:=by
 obtain⟨ops,c⟩:=Option.isSome_iff_exists.1 hd;have hr:Ak todo=ops:=by
  unfold GB at c
  split at c
  ·obtain rfl:=Option.some.inj c;rfl
  cases c
 rw[hr]at hok k j l;simp only[Prod.mk.injEq]at hok;obtain⟨hok,g,d⟩:=hok;have o:m.length+r=ops.size:=Nat.eq_of_beq_eq_true d;refine DK ops (hd:=c) (hm:=h) (m.length+r) (hs:=o.symm) ?_;rw[<-o]at hok j;exact bC K (Below.refl _ _).drew m hints specs r p l hok g k j
theorem ACz {P:Program} {f:FuncId} {R:Ending->World->Prop} {n:Nat} {todo:List Item} {E:Nat->Value} {w0 w:World} {M:List Ax} {L T:List Th} (K:Wk w0 w M L T) {mem:List Ax} (m:List Nat) (hints:List (Nat×Nat×Nat)) (specs:List Sp) (ts:List (Nat×Nat×Nat)) (M':Nat->List Ax)
  (hd:(GB todo).isSome=true) (l:P.follows .mixedOrders=true) (v:∀e∈mem,e.good w) (t:∀sp∈specs,F1 P n (Below (U w) w) (Ak todo) sp)
  (hok:(F4 .any (Ak todo) (Dk (Ak todo) m) (Array.replicate (Ak todo).size false) n (FH P n (Ak todo) mem hints specs m E)&&It (Ak todo) (FH P n (Ak todo) mem hints specs m E),m.all (GN P n (Ak todo) mem hints specs m E),Nat.beq (m.length+ts.length) (Ak todo).size,Jq (Ak todo) .any (m.foldl (λb i=>b.setIfInBounds i true) (Array.replicate (Ak todo).size false)) (ts.map (·.1)))=(true,true,true,true))
  (r:∀X,Li P n (Ak todo) mem hints specs m E X=JH P n (Ak todo) mem hints specs m E)
  (ht:∀z,((EH P n (Ak todo) ts (DW P n (Ak todo) mem hints specs m E) M z).isSome,(BX P n (Ak todo) mem hints specs m E ts M z).2.1,(BX P n (Ak todo) mem hints specs m E ts M z).2.2.2.map Prod.fst)=(true,M' z,(BX P n (Ak todo) mem hints specs m E ts M z).2.2.2.map Prod.snd))
  (s:∀z w',Wk w0 w' (M' z) L T->At P f R (AO todo) (Fr n (BX P n (Ak todo) mem hints specs m E ts M z).1) w'):At P f R todo (Fr n E) w:=by
 simp only[Prod.mk.injEq]at hok;obtain⟨h1,h2,y,k⟩:=hok;refine ACy K m hints specs ts.length hd l v t (by rw[h1,h2,y]) r λu Ku=>?_;have c:=ht (U u);simp only[Prod.mk.injEq]at c;obtain⟨j,g,d⟩:=c;obtain⟨q,o⟩:=Option.isSome_iff_exists.1 j;have x:BX P n (Ak todo) mem hints specs m E ts M (U u)=q:=by unfold BX;rw[o]
 have h:=s (U u);rw[x]at g d h;exact LW (P:=P) (n:=n) (ops:=Ak todo) (L:=L) (T:=T) (w0:=w0) (fuel:=0) (Q:=λe a w=>e=.normal/\IM P f R (AO todo) a w) ts _ _ M u Ku (U u) rfl q o (I0 d) k λw' a p ha=>⟨rfl,by rw[ha];rw[g]at p;exact(h w' p).mid⟩
theorem Fh {P:Program} {f:FuncId} {R:Ending->World->Prop} {n:Nat} {todo:List Item} {E:Nat->Value} {w0 w:World} {M:List Ax} {L T:List Th} (K:Wk w0 w M L T) {mem:List Ax} (m:List Nat) (hints:List (Nat×Nat×Nat)) (specs:List Sp) (ts:List (Nat×Nat×Nat)) (d:∀e∈mem,e.good w) (c:∀sp∈specs,F1 P n (Below (U w) w) (Ak todo) sp) (a:∀z w',Wk w0 w' (BX P n (Ak todo) mem hints specs m E ts M z).2.1 L T->At P f R (AO todo) (Fr n (BX P n (Ak todo) mem hints specs m E ts M z).1) w') (hd:(GB todo).isSome=true:=by kernel_rfl) (hmo:P.follows .mixedOrders=true:=by kernel_rfl) (hok:(F4 .any (Ak todo) (Dk (Ak todo) m) (Array.replicate (Ak todo).size false) n (FH P n (Ak todo) mem hints specs m E)&&It (Ak todo) (FH P n (Ak todo) mem hints specs m E),m.all (GN P n (Ak todo) mem hints specs m E),Nat.beq (m.length+ts.length) (Ak todo).size,Jq (Ak todo) .any (m.foldl (λb i=>b.setIfInBounds i true) (Array.replicate (Ak todo).size false)) (ts.map (·.1)))=(true,true,true,true):=by kernel_rfl) (hp:∀X,Li P n (Ak todo) mem hints specs m E X=JH P n (Ak todo) mem hints specs m E:=by intro _;kernel_rfl) (ht:∀z,((EH P n (Ak todo) ts (DW P n (Ak todo) mem hints specs m E) M z).isSome,(BX P n (Ak todo) mem hints specs m E ts M z).2.1,(BX P n (Ak todo) mem hints specs m E ts M z).2.2.2.map Prod.fst)=(true,(BX P n (Ak todo) mem hints specs m E ts M z).2.1,(BX P n (Ak todo) mem hints specs m E ts M z).2.2.2.map Prod.snd):=by intro _;kernel_rfl):At P f R todo (Fr n E) w:=ACz K m hints specs ts (λz=>(BX P n (Ak todo) mem hints specs m E ts M z).2.1) hd hmo d c hok hp ht a
section
variable {P:Program} {o:Oper} {ρ:Operand->Value} {w:World}
theorem Iz {T T':TypeId} {x y:Operand} {a b:Nat} (hop:o.op=.binOp .quo T x y T') (hx:ρ x=.int .u64 a) (c:ρ y=.int .u64 b) (hb:0<b) (ha:a<=18446744073709551615):(execOp ρ o).run P w=.ok (.value (.int .u64 ((a/b:Nat):Int))) w:=by unfold execOp;simp[hop,hx,c,binOp,Op.intDiv,eqGuard];rw[if_neg (by omega),IntKind.wrap_u64];have d:a/b<=a:=Nat.div_le_self a b;rw[show((a:Int)/(b:Int))=((a/b:Nat):Int) by omega];generalize a/b=q at d;rw[show((q:Int)%18446744073709551616)=(q:Int) by omega]
end
def LR (neg:Bool) (n d:Nat):Int×Int×Int:=cond (decide (1000000000000<n/Nat.gcd n d)||decide (1000000<d/Nat.gcd n d)) (0,0,4) (cond neg (-((n/Nat.gcd n d:Nat):Int)) ((n/Nat.gcd n d:Nat):Int),((d/Nat.gcd n d:Nat):Int),0)
abbrev CY (r:Int×Int×Int):Value:=.tuple #[D [J r.1,J r.2.1],J r.2.2]
noncomputable def aJ:Code:=Tryz.f111.body.getD .skip
def sH:=ν [.code aJ]
def sG:=Ac 2 (AD sH)
def sF:=Ac 3 (AO sG)
def cF:=Ω sF
def AD3:=Θ cF
def cD:=Ξ cF
def AD2:=Θ cD
def AD1:=Ξ cD
theorem Xm (neg:Bool) (n d:Nat) (w:World) (hn:n<=18446744073709551615) (hd:d<=18446744073709551615) (z:0<d):Calls Tryz.prog 111 ([I neg,.int .u64 (n:Int),.int .u64 (d:Int)]:List Value).toArray w λe w'=>e=.returned (CY (LR neg n d))/\Below (U w) w w':=by
 refine AS (fn:=Tryz.f111) (c:=aJ) (n:=35) ?_;have K1:=Wk.start w;refine An sH [N (U w) [J 0,J 0] 47] K1 [] λq K2=>?_;refine BL (Of n d q hn hd) λen w2 v=>?_;obtain⟨rfl,k,rfl⟩:=v;refine⟨_,rfl,?_⟩;have hg:0<Nat.gcd n d:=Nat.gcd_pos_of_pos_right _ z;unfold LR;generalize Nat.gcd n d=g at hg ⊢;have K3:=K2.below (GR (Below.refl _ _) k);refine Al 2 sG K3 [] λw3 m=>?_;refine Ap m [] [⟨2,[(13,.int .u64 (n:Int)),(14,.int .u64 (g:Int))],.int .u64 ((n/g:Nat):Int),true⟩,⟨5,[(16,.int .u64 (d:Int)),(17,.int .u64 (g:Int))],.int .u64 ((d/g:Nat):Int),true⟩] m.G (λr a=>?_) λw4 E4 K5=>?_
 ·rcases mem_cons.1 a with rfl | a
  ·exact BR λ_ E u _=>Iz (T:=141) (T':=141) (x:=.tmp 13) (y:=.tmp 14) (by kernel_rfl) (by kernel_rfl) (by kernel_rfl) hg hn
  obtain rfl:=mem_singleton.1 a;exact BR λ_ E u _=>Iz (T:=141) (T':=141) (x:=.tmp 16) (y:=.tmp 17) (by kernel_rfl) (by kernel_rfl) (by kernel_rfl) hg hd
 have t:n/g<=n:=Nat.div_le_self n g;have s:d/g<=d:=Nat.div_le_self d g;generalize n/g=x at *
 generalize d/g=y at *
 refine Al 3 sF K5 [] λw5 l=>?_;refine Ap l [] [] l.G (λr a=>by cases a) λw6 E6 K7=>?_;refine AC cF K7 [] λw7 j=>?_;refine AH (cond (decide (1000000000000<(x:Int))) true (decide (1000000<(y:Int)))) (λi=>?_) (λi=>?_)
 ·refine AC AD3 j [(0,0)] λp f=>?_;have hc:(decide (1000000000000<x)||decide (1000000<y))=true:=by simp at i ⊢;omega
  exact AN f (0,0) (.tuple #[D [J 0,J 0],J 4]) ⟨by rw[hc];rfl,f.B⟩
 have hx:x<=1000000000000/\y<=1000000:=by simp at i;omega
 have hc:(decide (1000000000000<x)||decide (1000000<y))=false:=by simp;omega
 refine AC cD j [] λp f=>?_;refine AH neg (λh=>?_) (λh=>?_)
 ·refine Ar AD2 f [(0,0)] λo b=>?_;refine AN b (0,0) (.tuple #[D [J (IntKind.i64.wrap (0-IntKind.i64.wrap (x:Int))),J (IntKind.i64.wrap (y:Int))],J 0]) ⟨?_,b.B⟩;rw[IntWalk.i64_in (x:Int) (by omega),IntWalk.i64_in (0-(x:Int)) (by omega),Int.zero_sub,IntWalk.i64_in (y:Int) (by omega),hc,h];rfl
 refine Ar AD1 f [(0,0)] λo b=>?_;refine AN b (0,0) (.tuple #[D [J (IntKind.i64.wrap (x:Int)),J (IntKind.i64.wrap (y:Int))],J 0]) ⟨?_,b.B⟩;rw[IntWalk.i64_in (x:Int) (by omega),IntWalk.i64_in (y:Int) (by omega),hc,h];rfl
noncomputable def aH:Code:=Tryz.f71.body.getD .skip
def cC:=ν [.code aH]
def ADz:=Θ cC
def ADy:=Ξ cC
theorem JZ (n:Int) (w:World) (j:-9223372036854775808<=n) (i:n<=9223372036854775807):Calls Tryz.prog 71 ([J n]:List Value).toArray w λe w'=>e=.returned (.int .u64 (n.natAbs:Nat))/\Below (U w) w w':=by
 refine AS (fn:=Tryz.f71) (c:=aH) (n:=10) ?_;have g:=Wk.start w;refine AC cC g [] λh d=>?_;refine AH (decide (n<0)) (λb=>?_) (λb=>?_)
 ·have hn:n<0:=of_decide_eq_true b;refine AC ADz d [] λf a=>?_;refine AN a (0,0) (.int .u64 (IntKind.u64.wrap (0-IntKind.u64.wrap n))) ⟨?_,a.B⟩;simp only[IntKind.wrap_u64];congr 2;omega
 have hn:¬n<0:=of_decide_eq_false b;refine AC ADy d [] λf a=>?_;refine AN a (0,0) (.int .u64 (IntKind.u64.wrap n)) ⟨?_,a.B⟩;simp only[IntKind.wrap_u64];congr 2;omega
def F6 (n d:Int):Int×Int×Int:=cond (d==0) (0,0,5) (LR (decide (n<0) != decide (d<0)) n.natAbs d.natAbs)
noncomputable def aA:Code:=Tryz.f69.body.getD .skip
def bh:=ν [.code aA]
def ADh:=Θ bh
def ro:=Ξ bh
def rl:=Ψ ro
def rk:=Ψ rl
def ADg:=Ψ rk
theorem Pn (n d:Int) (w:World) (m:-9223372036854775808<=n) (l:n<=9223372036854775807) (h2:-9223372036854775808<=d) (k:d<=9223372036854775807):Calls Tryz.prog 69 ([J n,J d]:List Value).toArray w λe w'=>e=.returned (CY (F6 n d))/\Below (U w) w w':=by
 refine AS (fn:=Tryz.f69) (c:=aA) (n:=21) ?_;have t:=Wk.start w;refine An bh [N (U w) [J 0,J 0] 47] t [] λz h=>?_;unfold F6;refine AH (d==0) (λa=>?_) (λa=>?_)
 ·refine AC ADh h [(0,0)] λf b=>?_;exact AN b (0,0) (.tuple #[D [J 0,J 0],J 5]) ⟨by rw[a];rfl,b.B⟩
 have hd:d≠0:=by simpa using a
 refine AC ro h [] λf b=>?_;refine AW b (JZ n f m l) λy s=>?_;refine AC rl s [] λj r=>?_;refine AW r (JZ d j h2 k) λx q=>?_;refine AC rk q [] λi p=>?_;refine AW p (Xm (decide (n<0) != decide (d<0)) n.natAbs d.natAbs i (by omega) (by omega) (by omega)) λv o=>?_;refine Ar ADg o [(0,0)] λu g=>?_;exact AN g (0,0) (CY (LR (decide (n<0) != decide (d<0)) n.natAbs d.natAbs)) ⟨by rw[a];rfl,g.B⟩
section
variable {P:Program} {n:Nat} {ops:Array Oper} {mem:List Ax} {hints:List (Nat×Nat×Nat)} {specs:List Sp}
def ge (ops:Array Oper) (m:List Nat) (a:Nat):Bool:=(m.all λi=>(ops.getD i default).op.operands.toList.all λx=>match x with
 | .tmp t=>!(C6 ops a==some t)
 | _=>true)&&((ops.getD a default).op.operands.toList.isEmpty&&KQ (ops.getD a default))
theorem IX {B:List Nat} {vals:Nat->Value} {u:World}:∀ {a b:List DA},Fz B vals u (a++b)->Fz B vals u a
 | [],_,_=>trivial
 | m::a,b,h=>by
  rw[cons_append]at h;unfold Fz at h ⊢
  split at h
  ·exact⟨h.1,IX h.2⟩
  exact IX h
theorem LN {vals:Nat->Value} {u:World}:∀ {b a:List DA},Fq vals u (b++a)->Fq vals u b/\Fq vals u a
 | [],_,h=>⟨trivial,h⟩
 | m::b,a,h=>by rw[cons_append]at h;unfold Fq at h;obtain⟨c,h2⟩:=h;have:=LN h2;exact⟨⟨c,this.1⟩,this.2⟩
theorem Wr.of_left {W τ:Wr} {t:Tmp} (h:∀p∈τ,p.1≠t):Wr.of (W++τ) t=Wr.of W t:=by
 unfold Wr.of;rw[find?_append];have:τ.find? (λp=>p.1==t)=none:=by rw[find?_eq_none];intro p a;simpa using h p a
 rw[this,Option.or_none]
end
def Mw (w:World) (a:Nat) (T:TypeId) (zero:List Value):DA:=⟨a,[],[a],λvs u=>∃g,vs=[Z g]/\(U w)<=g/\Ax.good u ⟨g,0,zero,T,true⟩⟩
theorem rB {P:Program} {n:Nat} {ops:Array Oper} {Q:Exit->Act->World->Prop} {E:Nat->Value} {w0 w:World} {M:List Ax} {L T:List Th} (K:Wk w0 w M L T) {mem:List Ax} (m:List Nat) (a:Nat) (y:TypeId) (zero:List Value) (hints:List (Nat×Nat×Nat)) (specs:List Sp) (r:Nat)
  (hM:∀e∈mem,e.good w) (hS:∀v,Below (U w) w v->∀sp∈specs,F1 P n (Below (U v) v) ops sp)
  (hok:(F4 .any ops (Dk ops (m++[a])) (Array.replicate ops.size false) n (FH P n ops mem hints specs m E++[Mw w a y zero])&&It ops (FH P n ops mem hints specs m E++[Mw w a y zero]),m.all (GN P n ops mem hints specs m E),Nat.beq (m.length+1+r) ops.size,ge ops m a)=(true,true,true,true))
  (ha:∀z,(Ce P (execOp (BK n E) (ops.getD a default)) ⟨z,[],(0,0),[]⟩).map (λr=>(EK r.1,r.2.mem,r.2.eqs))=some (some (Z z),[⟨z,0,zero,y,true⟩],[]))
  (hp:∀X,Li P n ops mem hints specs m E X=JH P n ops mem hints specs m E)
  (hk:∀u g,Wk w0 u (M++[⟨g,0,zero,y,true⟩]) L T->wpAny P .any ops Q r ((m++[a]).foldl (λb i=>b.setIfInBounds i true) (Array.replicate ops.size false)) (Fr n (A8 (DW P n ops mem hints specs m E) (C6 ops a) (Z g))) u):wpAny P .any ops Q ops.size (Array.replicate ops.size false) (Fr n E) w.drew:=by
 simp only[Prod.mk.injEq]at hok;obtain⟨hok,g1,f1,hX⟩:=hok;unfold ge at hX;rw[Bool.and_eq_true,Bool.and_eq_true]at hX;obtain⟨s1,r1,j0⟩:=hX;have hN:m.length+1+r=ops.size:=Nat.eq_of_beq_eq_true f1;have a1:∀i∈m,∀t,Operand.tmp t∈(ops.getD i default).op.operands->(Dk ops (m++[a])).of t=(Dk ops m).of t:=λi hi t ht=>by have h1:=all_eq_true.1 (all_eq_true.1 s1 i hi) _ (Array.mem_toList_iff.2 ht);simp only[Bool.not_eq_true',beq_eq_false_iff_ne]at h1;unfold Dk;rw[filterMap_append];refine Wr.of_left λp hp he=>h1 ?_;obtain⟨k,d0,q⟩:=mem_filterMap.1 hp;obtain rfl:=mem_singleton.1 d0;obtain⟨t',d1,rfl⟩:=Option.map_eq_some_iff.1 q;rw[d1,<-he]
 have parts:∀l:List Nat,(∀i∈l,i∈m)->Jy P ops n E (Dk ops (m++[a])) (λu=>Below (U w) w u) (λu u'=>Below (U u) u u') (FH P n ops mem hints specs m E++[Mw w a y zero]) (l.map (λi=>Av i (Eu ops m i) (D6 P n ops mem hints specs m E i))++[Mw w a y zero]):=by
  intro l
  induction l with
  | nil=>
   intro _;refine⟨⟨λ_ _ _ _ he h=>?_,λvals u hu hb=>?_⟩,trivial⟩
   ·obtain⟨g,h1,h2,h3⟩:=h;exact⟨g,h1,h2,FT h3 he.size (he.block _ h3.1)⟩
   show AL P (ops.getD a default) (DE n E (Dk ops (m++[a])) vals) u _;have g0:∀K',AL P (ops.getD a default) (BK n E) u K'->AL P (ops.getD a default) (DE n E (Dk ops (m++[a])) vals) u K':=λK' h=>by
    unfold AL at h ⊢;rw[execOp_congr (ρ:=DE n E (Dk ops (m++[a])) vals) (ρ':=BK n E) _ (λcs b hh=>by unfold KQ at j0;rw[hh]at j0;cases j0) (λx hx=>by
     have:=Array.mem_toList_iff.2 hx;rw[isEmpty_iff.1 r1]at this
     cases this)]
    exact h
   refine g0 _ ?_;have q1:=ha (U u);obtain⟨x,hx,k0⟩:=Option.map_eq_some_iff.1 q1;obtain⟨nx,b0⟩:=x;simp only[Prod.mk.injEq]at k0;obtain⟨e1,e2,e3⟩:=k0;have c1:nx=.value (Z (U u))\/(nx=.skip/\(Z (U u):Value)=undef):=by
    cases nx<;>simp[EK]at e1
    ·exact .inl (by rw[e1])
    exact .inr ⟨rfl,e1.symm⟩
   refine AL.runsK (O:=[]) (B:=(U u)) ⟨U u,[],(0,0),[]⟩ b0 nx _ (hm:=hx) c1 (CQ u) (by rw[e3];rfl) λw' hL hK=>?_;have hB:Below (U u) u w':=hK.below (Nat.le_refl _) (λk hk=>by cases hk);refine⟨hu.trans (hB.mono hu.size),hB,U u,?_,hu.size,hL.sat.good _ (by rw[e2];simp)⟩;show[EM vals a _ a]=_;unfold EM;rw[if_pos rfl]
  | cons i l ih=>
   intro hl;refine⟨⟨λ_ _ _ _ _ h=>h,λvals u hu hb=>?_⟩,ih λj hj=>hl j (by simp[hj])⟩;replace hb:=IX hb;have e0:=hl i (by simp);have hs:=all_eq_true.1 g1 i e0;unfold GN at hs;rw[Bool.and_eq_true]at hs;have c0:M1 P n ops mem hints specs m E vals i=KY P n ops mem hints specs m E i:=by have h1:=hp vals;unfold Li JH at h1;exact(map_inj_left.1 h1) i e0
   unfold M1 KY at c0;simp only[Prod.mk.injEq]at c0;obtain⟨hop,t0,d⟩:=c0;have hρ:∀x∈(ops.getD i default).op.operands,DE n E (Dk ops (m++[a])) vals x=BK n (Ew P n ops mem hints specs m E i) x:=λx hx=>by
    have h2:NP P n ops mem hints specs m E vals i x=BK n (Ew P n ops mem hints specs m E i) x:=by have b1:x∈(ops.getD i default).op.operands.toList:=Array.mem_toList_iff.2 hx;obtain⟨k,q⟩:=mem_iff_getElem?.1 b1;have h3:=congrArg (λl=>l[k]?) hop;simp only[getElem?_map,q,Option.map_some,Option.some.injEq]at h3;exact h3
    rw[<-h2]
    cases x with
    | tmp t=>
     unfold DE NP;have hw:=a1 i e0 t hx
     cases hW:(Dk ops m).of t with
     | none=>rw[hW]at hw;simp only[hW,hw]
     | some j=>
      rw[hW]at hw;simp only[hW,hw]
      cases hc:(Eu ops m i).contains j with
      | false=>rfl
      | true=>
       have hj:j∈m:=by unfold Wr.of at hW;obtain⟨p,k1,i1⟩:=Option.map_eq_some_iff.1 hW;have o:=mem_of_find?_eq_some k1;unfold Dk at o;obtain⟨k,d0,q⟩:=mem_filterMap.1 o;obtain⟨t',_,rfl⟩:=Option.map_eq_some_iff.1 q;rw[<-i1];exact d0
       exact JG hb j hj hc
    | _=>rfl
   have m0:∀cs b,(ops.getD i default).op≠.select cs b:=λcs b hh=>by
    have:=hs.1;unfold KQ at this;rw[hh]at this
    cases this
   show AL P (ops.getD i default) (DE n E (Dk ops (m++[a])) vals) u _;have g0:∀K',AL P (ops.getD i default) (BK n (Ew P n ops mem hints specs m E i)) u K'->AL P (ops.getD i default) (DE n E (Dk ops (m++[a])) vals) u K':=λK' h=>by unfold AL at h ⊢;rw[execOp_congr _ m0 hρ];exact h
   refine g0 _ ?_
   cases hsp:Hh specs i with
   | some sp=>
    rw[hsp]at t0 hs;have o:=JT hsp;have hi:=o.2;have q0:=hS u hu sp o.1 hs.2 (Ew P n ops mem hints specs m E i) (JF t0) u (Below.refl _ _);rw[hi]at q0;refine AL.of_quiet q0 (Below.refl _ _) λw' l0=>⟨hu.trans (l0.mono hu.size),l0,?_⟩;show[EM vals i sp.v i]=[D6 P n ops mem hints specs m E i];unfold EM D6 Mz;rw[hsp,if_pos rfl]
   | none=>
    rw[hsp]at d hs;simp only at d hs;obtain⟨x,hx⟩:=Option.isSome_iff_exists.1 hs.2;rw[hx]at d;simp only[Option.map_some,Option.some.injEq,Prod.mk.injEq]at d;obtain⟨nx,b0⟩:=x;have f:=d.1
    cases nx with
    | value v=>
     simp only[EK,Option.some.injEq]at f;refine AL.reads ⟨0,mem,Ih hints i,[]⟩ (BG hM hu) v (hv:=by rw[hx];rfl) (he:=by rw[hx];exact congrArg some d.2) ⟨hu,Below.refl _ _,?_⟩;show[EM vals i v i]=[D6 P n ops mem hints specs m E i];unfold EM;rw[if_pos rfl,f]
    | skip=>
     simp only[EK,Option.some.injEq]at f;have m1:(Dp P (execOp (BK n (Ew P n ops mem hints specs m E i)) (ops.getD i default)) ⟨0,mem,Ih hints i,[]⟩)=some (.skip,b0):=hx;have p0:=GK (w:=u) _ _ _ _ m1 (BG hM hu) (I0 d.2);unfold AL;rw[p0];refine⟨hu,Below.refl _ _,?_⟩;show[EM vals i undef i]=[D6 P n ops mem hints specs m E i];unfold EM;rw[if_pos rfl,f]
    | enter _ _=>simp[EK]at f
    | _=>simp[EK]at f
 have r0:(FH P n ops mem hints specs m E++[Mw w a y zero]).length=m.length+1:=by unfold FH;rw[length_append,length_map];rfl
 have a0:(FH P n ops mem hints specs m E++[Mw w a y zero]).map (·.idx)=m++[a]:=by unfold FH;rw[map_append,map_map];show m.map (λi=>i)++[a]=_;rw[map_id']
 have l1:(m++[a]).Nodup:=by have:=FF (by have h:=hok;rw[Bool.and_eq_true]at h;exact h.1);rw[<-a0];exact this.nodup
 refine Cm (md:=.any) (fuel:=r) (L:=FH P n ops mem hints specs m E++[Mw w a y zero]) (W:=Dk ops (m++[a])) (C:=λu=>Below (U w) w u) (Ext:=λu u'=>Below (U u) u u') (hok:=hok) (Below.refl _ _).drew (λu=>Below.refl _ _) (λa b c h k=>h.trans (k.mono h.size)) (parts m λi hi=>hi) (by rw[r0,hN]) λvals u hu _ z0=>?_;obtain⟨i0,h0⟩:=LN z0;obtain⟨g,p1,o1,v0⟩:∃g,vals a=Z g/\(U w)<=g/\Ax.good u ⟨g,0,zero,y,true⟩:=by obtain⟨⟨g,h1,h2,h3⟩,_⟩:=h0;exact⟨g,(List.cons.inj h1).1,h2,h3⟩
 rw[a0];have x0:Ly ops vals (m++[a]) E=A8 (DW P n ops mem hints specs m E) (C6 ops a) (Z g):=by unfold Ly;rw[foldl_append];have:=M9 (mem:=mem) (hints:=hints) (specs:=specs) (P:=P) (n:=n) (E:=E) (vals:=vals) (nodup_append.1 l1).1 (λj hj=>Jk i0 j hj);unfold Ly at this;rw[this];show A8 _ _ (vals a)=_;rw[p1]
 rw[x0];refine hk u g ?_;have hO:AY (U w) u [Th.ent ⟨g,0,zero,y,true⟩]:=⟨hu.size,λi t hi=>?_,λi t hi k hk=>?_,λi j s t hi hj n1=>?_⟩
 ·have:=K.joinE (ζ:=[]) hu hO;rwa [append_nil]at this
 ·cases i with
  | zero=>obtain rfl:=Option.some.inj hi;exact v0
  | succ i=>simp at hi
 ·cases i with
  | zero=>
   obtain rfl:=Option.some.inj hi;obtain rfl:k=g:=hk;exact⟨o1,v0.1⟩
  | succ i=>simp at hi
 cases i with
 | zero=>cases j with
  | zero=>exact absurd rfl n1
  | succ j=>simp at hj
 | succ i=>simp at hi
def Ay (ops:Array Oper) (j i:Nat):Array Oper:=ops.setIfInBounds j { ops.getD j default with after:=(ops.getD j default).after.push ⟨i,.data⟩ }
def Uh (md:Region.Mode) (ops:Array Oper):Nat->Nat->Nat->Bool
 | 0,_,_=>false
 | d+1,k,t=>match ops[k]? with
  | some o=>o.after.any λe=>Region.binds md e&&(e.on==t||Uh md ops d e.on t)
  | none=>false
def wj (md:Region.Mode) (ops:Array Oper) (i:Nat):Bool:=match ops[i]? with
 | some oi=>(List.range ops.size).all λj=>j==i||oi.after.any (λe=>Region.binds md e&&e.on==j)||(match ops[j]? with
  | some oj=>oj.after.any (λe=>Region.binds md e&&e.on==i)||oi.apart ops oj
  | none=>true)
 | none=>false
def QG (md:Region.Mode) (ops:Array Oper) (d j i:Nat):Bool:=(match ops[i]? with
 | some oi=>oi.guard.isNone&&(match oi.op with | .extract _ _ | .move _=>true | _=>false)&&oi.after.all (λe=>!Region.binds md e||Uh md ops d j e.on)
 | none=>false)&&(wj md ops i&&Region.noSelect ops&&Nat.ble (j+1) ops.size && !(i==j))
section
variable {P:Program} {ops:Array Oper} {Q:Exit->Act->World->Prop} {md:Region.Mode}
def Kl (md:Region.Mode) (ops:Array Oper) (listed:Array Bool):Prop:=listed.size=ops.size/\∀k o,ops[k]?=some o->listed.getD k false=true->∀e∈o.after,Region.binds md e=true->listed.getD e.on false=true
theorem OL {a:Array Bool} (hc:Kl md ops a):∀(d k t:Nat) (o:Oper),ops[k]?=some o->(∀e∈o.after,Region.binds md e=true->a.getD e.on false=true)->Uh md ops d k t=true->a.getD t false=true
 | 0,_,_,_,_,_,h=>by cases h
 | d+1,k,t,o,ho,hl,h=>by
  unfold Uh at h;simp only[ho]at h;obtain⟨e,he,hb⟩:=Array.any_eq_true'.1 h;rw[Bool.and_eq_true,Bool.or_eq_true]at hb;obtain⟨g,b⟩:=hb;have j:=hl e he g;rcases b with b | b
  ·rw[<-beq_iff_eq.1 b];exact j
  have c:e.on<ops.size:=by
   rcases Nat.lt_or_ge e.on a.size with l | l
   ·rw[<-hc.1];exact l
   simp[Array.getElem?_eq_none l]at j
  exact OL hc d e.on t ops[e.on] (Array.getElem?_eq_getElem c) (λe' f i=>hc.2 _ _ (Array.getElem?_eq_getElem c) j e' f i) b
theorem PO {a:Array Bool} (hc:Kl md ops a) {k:Nat} (d:k∈Region.ready md ops a):Kl md ops (a.setIfInBounds k true):=by
 refine⟨by simp[hc.1],λj o ho c e he hb=>?_⟩;obtain⟨_,ok,hok,b⟩:=mem_ready.1 d;by_cases hjk:k=j
 ·subst hjk;rw[hok]at ho;obtain rfl:=Option.some.inj ho;exact getD_set_true (b e he hb)
 rw[getD_set_ne false hjk]at c;exact getD_set_true (hc.2 j o ho c e he hb)
theorem Uj {i:Nat} {o:Oper} {x:Operand} {k:Nat} {K:Act->World->Prop} {a:Act} {w:World} (hi:ops[i]?=some o) (hg:o.guard=none) (hop:o.op=.extract x k) (h:wpOp P ops Q i K a w):∃v,(∀u,(execOp a.eval o).run P u=.ok (.value v) u)/\K (a.put o.dst v) w:=by
 unfold wpOp at h;have c:Region.wanted o (yielded ops a.tmps)=true:=by unfold Region.wanted;rw[hg]
 simp only[hi,c,if_true]at h;unfold Oper.wp Oper.asks at h;have hx:execOp a.eval o=(do pure (Next.value (<-Instr.extract (a.eval x) k))):=by simp only[execOp,hop]
 rw[hx]at h ⊢;have b:∀s:String,¬((o.upon P a K Q (Sem.run P (do pure (Next.value (<-(stuck s:Sem Value)))) w))\/((noRoomEvent∈((do pure (Next.value (<-(stuck s:Sem Value))):Sem Next).runT P w #[]).2/\(match (Sem.run P (do pure (Next.value (<-(stuck s:Sem Value)))) w)with
  | .halt .blocked _ | .halt .waiting _ | .halt (.unsupported (.initOrder _)) _=>False
  | _=>True))/\LetsOut Q)):=λs h=>by
  rcases h with h | h
  ·exact h
  have:=h.1.1
  revert this
  show noRoomEvent∈(#[]:Array _)->False;simp
 cases hv:a.eval x with
 | tuple vs=>
  rw[hv]at h;unfold Instr.extract at h ⊢
  cases hk:vs[k]? with
  | none=>
   simp only[hk]at h;exact absurd h (b _)
  | some v=>
   simp only[hk]at h ⊢;refine⟨v,λu=>rfl,?_⟩;rcases h with h | h
   ·exact h
   have:=h.1.1
   revert this
   show noRoomEvent∈(#[]:Array _)->_;simp
 | _=>
  rw[hv]at h;exact absurd h (b _)
theorem iO {i:Nat} {o:Oper} {x:Operand} {K:Act->World->Prop} {a:Act} {w:World} (hi:ops[i]?=some o) (hg:o.guard=none) (hop:o.op=.move x) (h:wpOp P ops Q i K a w):∃v,(∀u,(execOp a.eval o).run P u=.ok (.value v) u)/\K (a.put o.dst v) w:=by
 unfold wpOp at h;have b:Region.wanted o (yielded ops a.tmps)=true:=by unfold Region.wanted;rw[hg]
 simp only[hi,b,if_true]at h;unfold Oper.wp Oper.asks at h;have hx:execOp a.eval o=pure (Next.value (a.eval x)):=by simp only[execOp,hop]
 rw[hx]at h ⊢;refine⟨a.eval x,λu=>rfl,?_⟩;rcases h with h | h
 ·exact h
 have:=h.1.1
 revert this
 show noRoomEvent∈(#[]:Array _)->_;simp
theorem I6 {j i:Nat} (a:j<ops.size) (k:Nat):(Ay ops j i)[k]?=(ops[k]?).map λo=>if j=k then { o with after:=o.after.push ⟨i,.data⟩ } else o:=by
 unfold Ay;rw[Array.getElem?_setIfInBounds];by_cases h:j=k
 ·subst h;rw[if_pos rfl,if_pos a,Array.getElem?_eq_getElem a,Option.map_some,if_pos rfl,Array.getD_eq_getD_getElem?,Array.getElem?_eq_getElem a];rfl
 rw[if_neg h]
 cases ops[k]? with
 | none=>rfl
 | some o=>rw[Option.map_some,if_neg h]
theorem Sv {j i k:Nat} {K:Act->World->Prop} {a:Act} {w:World} (b:j<ops.size) (h:wpOp P (Ay ops j i) Q k K a w):wpOp P ops Q k K a w:=by
 have c:yielded (Ay ops j i) a.tmps=yielded ops a.tmps:=by
  funext t;unfold yielded;rw[I6 b]
  cases ops[t]? with
  | none=>rfl
  | some o=>
   by_cases h:j=t
   ·simp[h]
   simp[h]
 unfold wpOp at h ⊢;rw[c,I6 b]at h
 cases ho:ops[k]? with
 | none=>rw[ho]at h;exact h
 | some o=>
  rw[ho]at h;by_cases hjk:j=k
  ·simp only[Option.map_some,if_pos hjk]at h;exact h
  simp only[Option.map_some,if_neg hjk]at h;exact h
theorem QF {d j i:Nat} (hok:QG md ops d j i=true) (hQ:∀c a w,¬Q (.panic c) a w):∀(fuel:Nat) (f:Array Bool) (a:Act) (w:World),Kl md ops f->wpAny P md (Ay ops j i) Q fuel f a w->wpAny P md ops Q fuel f a w:=by
 unfold QG at hok;rw[Bool.and_eq_true,Bool.and_eq_true,Bool.and_eq_true,Bool.and_eq_true]at hok;obtain⟨m,⟨⟨t,b0⟩,g0⟩,r⟩:=hok;have hj:j<ops.size:=Nat.le_of_ble_eq_true g0;have r:i≠j:=by simpa using r
 cases hi:ops[i]? with
 | none=>rw[hi]at m;cases m
 | some oi=>
 rw[hi]at m;simp only at m;rw[Bool.and_eq_true,Bool.and_eq_true]at m;obtain⟨⟨hg,hx⟩,c0⟩:=m;have hg:oi.guard=none:=by
  cases h:oi.guard with
  | none=>rfl
  | some _=>rw[h]at hg;cases hg
 have hop:(∃x k,oi.op=.extract x k)\/∃x,oi.op=.move x:=by cases h:oi.op<;>rw[h]at hx<;>first | exact .inl ⟨_,_,rfl⟩ | exact .inr ⟨_,rfl⟩ | cases hx
 have a0:∀f k,k∈Region.ready md (Ay ops j i) f->k∈Region.ready md ops f:=λf k l=>by
  obtain⟨y,o,ho,g⟩:=mem_ready.1 l;rw[I6 hj]at ho;obtain⟨o',d0,rfl⟩:=Option.map_eq_some_iff.1 ho;refine mem_ready.2 ⟨y,o',d0,λe he hb=>g e ?_ hb⟩
  split
  ·exact Array.mem_push_of_mem _ he
  exact he
 have n:∀f,i∈Region.ready md ops f->i∈Region.ready md (Ay ops j i) f:=λf l=>by obtain⟨y,o,ho,g⟩:=mem_ready.1 l;exact mem_ready.2 ⟨y,o,by rw[I6 hj,ho,Option.map_some,if_neg (Ne.symm r)],g⟩
 have key:∀f,Kl md ops f->i∉Region.ready md ops f->∀k,k∈Region.ready md ops f->k∈Region.ready md (Ay ops j i) f:=λf hc hn k l=>by
  obtain⟨y,o,ho,g⟩:=mem_ready.1 l;refine mem_ready.2 ⟨y,_,by rw[I6 hj,ho,Option.map_some],λe he hb=>?_⟩;by_cases hjk:j=k
  ·rw[if_pos hjk]at he;rcases Array.mem_push.1 he with he | rfl
   ·exact g e he hb
   show f.getD i false=true
   cases hl:f.getD i false with
   | true=>rfl
   | false=>
    refine absurd (mem_ready.2 ⟨?_,oi,hi,λe he hb=>?_⟩) hn
    ·have s:i<f.size:=by rw[hc.1];exact(Array.getElem?_eq_some_iff.1 hi).1
     simp only[Array.getD_eq_getD_getElem?,Array.getElem?_eq_getElem s,Option.getD_some]at hl ⊢;exact hl
    have h2:=Array.all_eq_true_iff_forall_mem.1 c0 e he;rw[hb]at h2;simp only[Bool.not_true,Bool.false_or]at h2;subst hjk;exact OL hc d j e.on o ho g h2
  rw[if_neg hjk]at he;exact g e he hb
 intro fuel
 induction fuel with
 | zero=>
  intro f a w hc h;refine⟨?_,h.2⟩;rw[eq_nil_iff_forall_not_mem];intro k l;have z:∀k,k∉Region.ready md (Ay ops j i) f:=λk=>by rw[h.1];exact not_mem_nil
  by_cases hr:i∈Region.ready md ops f
  ·exact z i (n _ hr)
  exact z k (key _ hc hr k l)
 | succ fuel ih=>
  intro f a w hc h;by_cases hr:i∈Region.ready md ops f
  ·have m:=Sv hj (h.2 i (n _ hr));obtain⟨v,hv,hK⟩:∃v,(∀u,(execOp a.eval oi).run P u=.ok (.value v) u)/\wpAny P md (Ay ops j i) Q fuel (f.setIfInBounds i true) (a.put oi.dst v) w:=by
    rcases hop with⟨x,kx,hop⟩ | ⟨x,hop⟩
    ·exact Uj hi hg hop m
    exact iO hi hg hop m
   refine wpAny_first hi (λj' o' cs b=>Region.noSelect_spec b0 j' o' cs b) (λc a w h=>absurd h (hQ _ _ _)) fuel f a w (λj' oj q i0 p e0=>?_) hr (.inl ⟨by unfold Region.wanted;rw[hg],hv⟩) (ih _ _ _ (PO hc hr) hK);unfold wj at t;simp only[hi,all_eq_true,mem_range]at t;have h2:=t j' (Array.getElem?_eq_some_iff.1 q).1;simp only[q,Bool.or_eq_true,beq_iff_eq,i0,false_or]at h2;rcases h2 with h2 | h2 | h2
   ·obtain⟨e,he,hb⟩:=Array.any_eq_true'.1 h2;rw[Bool.and_eq_true,beq_iff_eq]at hb;obtain⟨_,o,ho,g⟩:=mem_ready.1 hr;rw[hi]at ho;obtain rfl:=Option.some.inj ho;have z:=g e he hb.1;rw[hb.2]at z;have s:j'<f.size:=by rw[hc.1];exact(Array.getElem?_eq_some_iff.1 q).1
    simp only[Array.getD_eq_getD_getElem?,Array.getElem?_eq_getElem s,Option.getD_some]at z p;rw[z]at p
    cases p
   ·obtain⟨e,he,hb⟩:=Array.any_eq_true'.1 h2;rw[Bool.and_eq_true,beq_iff_eq]at hb;exact absurd hb.2 (e0 e he hb.1)
   exact h2
  refine⟨λy=>h.1 ?_,λk l=>?_⟩
  ·rw[eq_nil_iff_forall_not_mem];intro k l;have:=a0 _ _ l;rw[y]at this
   cases this
  exact wpOp_mono (λa' w' h'=>ih _ a' w' (PO hc l) h') (Sv hj (h.2 k (key _ hc hr k l)))
theorem NQ:Kl md ops (Array.replicate ops.size false):=by refine⟨by simp,λk o ho b=>?_⟩;have a:=(Array.getElem?_eq_some_iff.1 ho).1;simp[a]at b
end
theorem aw {P:Program} {f:FuncId} {R:Ending->World->Prop} {n:Nat} {todo:List Item} {E:Nat->Value} {w0 w:World} {M:List Ax} {L T:List Th} (K:Wk w0 w M L T) {mem:List Ax} (j i:Nat) (m:List Nat) (a:Nat) (l:TypeId) (zero:List Value) (hints:List (Nat×Nat×Nat)) (specs:List Sp) (ts:List (Nat×Nat×Nat)) (M':Nat->List Ax)
  (hM:∀e∈mem,e.good w) (hS:∀v,Below (U w) w v->∀sp∈specs,F1 P n (Below (U v) v) (Ay (Ak todo) j i) sp)
  (y:∀g z w',Wk w0 w' (M' g) L T->At P f R (AO todo) (Fr n (((EH P n (Ay (Ak todo) j i) ts (A8 (DW P n (Ay (Ak todo) j i) mem hints specs m E) (C6 (Ay (Ak todo) j i) a) (Z g)) (M++[⟨g,0,zero,l,true⟩]) z).map (·.1)).getD E)) w')
  (t:QG .any (Ak todo) 4 j i=true:=by kernel_rfl) (hd:(GB todo).isSome=true:=by kernel_rfl) (hmo:P.follows .mixedOrders=true:=by kernel_rfl)
  (hok:(F4 .any (Ay (Ak todo) j i) (Dk (Ay (Ak todo) j i) (m++[a])) (Array.replicate (Ay (Ak todo) j i).size false) n (FH P n (Ay (Ak todo) j i) mem hints specs m E++[Mw w a l zero])&&It (Ay (Ak todo) j i) (FH P n (Ay (Ak todo) j i) mem hints specs m E++[Mw w a l zero]),m.all (GN P n (Ay (Ak todo) j i) mem hints specs m E),Nat.beq (m.length+1+ts.length) (Ay (Ak todo) j i).size,ge (Ay (Ak todo) j i) m a&&Jq (Ay (Ak todo) j i) .any ((m++[a]).foldl (λb i=>b.setIfInBounds i true) (Array.replicate (Ay (Ak todo) j i).size false)) (ts.map (·.1)))=(true,true,true,true):=by kernel_rfl)
  (ha:∀z,(Ce P (execOp (BK n E) ((Ay (Ak todo) j i).getD a default)) ⟨z,[],(0,0),[]⟩).map (λr=>(EK r.1,r.2.mem,r.2.eqs))=some (some (Z z),[⟨z,0,zero,l,true⟩],[]):=by intro _;kernel_rfl)
  (hp:∀X,Li P n (Ay (Ak todo) j i) mem hints specs m E X=JH P n (Ay (Ak todo) j i) mem hints specs m E:=by intro _;kernel_rfl)
  (ht:∀g z,(EH P n (Ay (Ak todo) j i) ts (A8 (DW P n (Ay (Ak todo) j i) mem hints specs m E) (C6 (Ay (Ak todo) j i) a) (Z g)) (M++[⟨g,0,zero,l,true⟩]) z).map (λq=>(q.2.1,q.2.2.2.map Prod.fst))=(EH P n (Ay (Ak todo) j i) ts (A8 (DW P n (Ay (Ak todo) j i) mem hints specs m E) (C6 (Ay (Ak todo) j i) a) (Z g)) (M++[⟨g,0,zero,l,true⟩]) z).map (λq=>(M' g,q.2.2.2.map Prod.snd)):=by intro _ _;kernel_rfl)
  (hs:∀g z,(EH P n (Ay (Ak todo) j i) ts (A8 (DW P n (Ay (Ak todo) j i) mem hints specs m E) (C6 (Ay (Ak todo) j i) a) (Z g)) (M++[⟨g,0,zero,l,true⟩]) z).isSome=true:=by intro _ _;kernel_rfl):At P f R todo (Fr n E) w:=by
 simp only[Prod.mk.injEq]at hok;obtain⟨h1,h2,h3,p⟩:=hok;rw[Bool.and_eq_true]at p;obtain⟨ops,d⟩:=Option.isSome_iff_exists.1 hd;have hr:Ak todo=ops:=by
  unfold GB at d
  split at d
  ·obtain rfl:=Option.some.inj d;rfl
  cases d
 rw[hr]at h1 h2 h3 p hp y hS ha ht hs t;have s:(Ay ops j i).size=ops.size:=by unfold Ay;simp
 refine DK ops (hd:=d) (hm:=hmo) ops.size (hs:=rfl) (QF t (λc a w h=>by cases h.1) _ _ _ _ NQ ?_);rw[<-s];refine rB K m a l zero hints specs ts.length hM hS (by rw[h1,h2,h3,p.1]) ha hp λu g Ku=>?_;obtain⟨q,x⟩:=Option.isSome_iff_exists.1 (hs g (U u));have k:=ht g (U u);have o:=y g (U u);rw[x]at k o;simp only[Option.map_some,Option.some.injEq,Prod.mk.injEq]at k;exact LW (P:=P) (n:=n) (ops:=Ay ops j i) (L:=L) (T:=T) (w0:=w0) (fuel:=0) (Q:=λe a w=>e=.normal/\IM P f R (AO todo) a w) ts _ _ _ u Ku (U u) rfl q x (I0 k.2) p.2 λw' a K' ha=>⟨rfl,by rw[ha];rw[k.1]at K';exact(o w' K').mid⟩
end
end Go.Proofs.YtkpemkkbjfbmaaaGreat

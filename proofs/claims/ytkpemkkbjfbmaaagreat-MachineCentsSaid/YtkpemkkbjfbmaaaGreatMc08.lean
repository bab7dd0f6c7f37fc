/- Contracts of functions, part 8. -/
import Derived.Test.YtkpemkkbjfbmaaaGreatMc07
import Derived.Test.YtkpemkkbjfbmaaaGreatMc03
set_option linter.all false
namespace Go.Proofs.YtkpemkkbjfbmaaaGreat
open List
noncomputable section
open Go.RowKit
set_option maxRecDepth 100000
set_option maxHeartbeats 1000000
section
variable {P:Program} {n:Nat} {ops:Array Oper} {mem:List Ax} {hints:List (Nat×Nat×Nat)} {specs:List Sp} {E:Nat->Value}
def gb (ops:Array Oper) (m:List Nat) (a:Nat):Bool:=((m++[a]).all λi=>(ops.getD i default).op.operands.toList.all λx=>match x with
 | .tmp t=>!(C6 ops a==some t)
 | _=>true)&&KQ (ops.getD a default)
theorem mB {m:List Nat} {a i:Nat} {vals:Nat->Value} {u:World} (hi:i∈m++[a]) (r:((m++[a]).all λi=>(ops.getD i default).op.operands.toList.all λx=>match x with
 | .tmp t=>!(C6 ops a==some t)
 | _=>true)=true) (hop:(ops.getD i default).op.operands.toList.map (NP P n ops mem hints specs m E vals i)=(ops.getD i default).op.operands.toList.map (BK n (Ew P n ops mem hints specs m E i)))
  (hb:Fz (Eu ops m i) vals u (FH P n ops mem hints specs m E)):∀x∈(ops.getD i default).op.operands,DE n E (Dk ops (m++[a])) vals x=BK n (Ew P n ops mem hints specs m E i) x:=λx hx=>by
 have e:∀t,Operand.tmp t∈(ops.getD i default).op.operands->(Dk ops (m++[a])).of t=(Dk ops m).of t:=λt ht=>by have v:=all_eq_true.1 (all_eq_true.1 r i hi) _ (Array.mem_toList_iff.2 ht);simp only[Bool.not_eq_true',beq_eq_false_iff_ne]at v;unfold Dk;rw[filterMap_append];refine Wr.of_left λp y he=>v ?_;obtain⟨k,d,b⟩:=mem_filterMap.1 y;obtain rfl:=mem_singleton.1 d;obtain⟨w,h,rfl⟩:=Option.map_eq_some_iff.1 b;rw[h,<-he]
 have h2:NP P n ops mem hints specs m E vals i x=BK n (Ew P n ops mem hints specs m E i) x:=by have g:x∈(ops.getD i default).op.operands.toList:=Array.mem_toList_iff.2 hx;obtain⟨k,b⟩:=mem_iff_getElem?.1 g;have s:=congrArg (λl=>l[k]?) hop;simp only[getElem?_map,b,Option.map_some,Option.some.injEq]at s;exact s
 rw[<-h2]
 cases x with
 | tmp t=>
  unfold DE NP;have f:=e t hx
  cases hW:(Dk ops m).of t with
  | none=>rw[hW]at f;simp only[hW,f]
  | some j=>
   rw[hW]at f;simp only[hW,f]
   cases hc:(Eu ops m i).contains j with
   | false=>rfl
   | true=>
    have z:j∈m:=by unfold Wr.of at hW;obtain⟨p,q,o⟩:=Option.map_eq_some_iff.1 hW;have c:=mem_of_find?_eq_some q;unfold Dk at c;obtain⟨k,d,b⟩:=mem_filterMap.1 c;obtain⟨w,_,rfl⟩:=Option.map_eq_some_iff.1 b;rw[<-o];exact d
    exact JG hb j z hc
 | _=>rfl
end
def Mv (w:World) (a:Nat) (bef:List Nat) (vf:Nat->Value) (T:TypeId) (zero:List Value):DA:=⟨a,bef,[a],λvs u=>∃g,vs=[vf g]/\(U w)<=g/\Ax.good u ⟨g,0,zero,T,true⟩⟩
theorem qz {P:Program} {n:Nat} {ops:Array Oper} {Q:Exit->Act->World->Prop} {E:Nat->Value} {w0 w:World} {M:List Ax} {L T:List Th} (K:Wk w0 w M L T) {mem:List Ax} (m:List Nat) (a:Nat) (o:Nat->Value) (p:TypeId) (zero:List Value) (hints:List (Nat×Nat×Nat)) (specs:List Sp) (r:Nat)
  (hM:∀e∈mem,e.good w) (hS:∀v,Below (U w) w v->∀sp∈specs,F1 P n (Below (U v) v) ops sp)
  (hok:(F4 .any ops (Dk ops (m++[a])) (Array.replicate ops.size false) n (FH P n ops mem hints specs m E++[Mv w a (Eu ops m a) o p zero])&&It ops (FH P n ops mem hints specs m E++[Mv w a (Eu ops m a) o p zero]),m.all (GN P n ops mem hints specs m E),Nat.beq (m.length+1+r) ops.size,gb ops m a)=(true,true,true,true))
  (ha:∀z,(Ce P (execOp (BK n (Ew P n ops mem hints specs m E a)) (ops.getD a default)) ⟨z,[],(0,0),[]⟩).map (λr=>(EK r.1,r.2.mem,r.2.eqs))=some (some (o z),[⟨z,0,zero,p,true⟩],[]))
  (c1:∀X,(ops.getD a default).op.operands.toList.map (NP P n ops mem hints specs m E X a)=(ops.getD a default).op.operands.toList.map (BK n (Ew P n ops mem hints specs m E a)))
  (hp:∀X,Li P n ops mem hints specs m E X=JH P n ops mem hints specs m E)
  (hk:∀u g,Wk w0 u (M++[⟨g,0,zero,p,true⟩]) L T->wpAny P .any ops Q r ((m++[a]).foldl (λb i=>b.setIfInBounds i true) (Array.replicate ops.size false)) (Fr n (A8 (DW P n ops mem hints specs m E) (C6 ops a) (o g))) u):wpAny P .any ops Q ops.size (Array.replicate ops.size false) (Fr n E) w.drew:=by
 simp only[Prod.mk.injEq]at hok;obtain⟨hok,b1,a1,hX⟩:=hok;unfold gb at hX;rw[Bool.and_eq_true]at hX;obtain⟨x0,h0⟩:=hX;have hN:m.length+1+r=ops.size:=Nat.eq_of_beq_eq_true a1;have parts:∀l:List Nat,(∀i∈l,i∈m)->Jy P ops n E (Dk ops (m++[a])) (λu=>Below (U w) w u) (λu u'=>Below (U u) u u') (FH P n ops mem hints specs m E++[Mv w a (Eu ops m a) o p zero]) (l.map (λi=>Av i (Eu ops m i) (D6 P n ops mem hints specs m E i))++[Mv w a (Eu ops m a) o p zero]):=by
  intro l
  induction l with
  | nil=>
   intro _;refine⟨⟨λ_ _ _ _ he h=>?_,λvals u hu hb=>?_⟩,trivial⟩
   ·obtain⟨g,h1,h2,h3⟩:=h;exact⟨g,h1,h2,FT h3 he.size (he.block _ h3.1)⟩
   show AL P (ops.getD a default) (DE n E (Dk ops (m++[a])) vals) u _;replace hb:=IX hb;have d0:∀K',AL P (ops.getD a default) (BK n (Ew P n ops mem hints specs m E a)) u K'->AL P (ops.getD a default) (DE n E (Dk ops (m++[a])) vals) u K':=λK' h=>by unfold AL at h ⊢;rw[execOp_congr (ρ:=DE n E (Dk ops (m++[a])) vals) (ρ':=BK n (Ew P n ops mem hints specs m E a)) _ (λcs b hh=>by unfold KQ at h0;rw[hh]at h0;cases h0) (mB (by simp) x0 (c1 vals) hb)];exact h
   refine d0 _ ?_;have l1:=ha (U u);obtain⟨x,hx,i0⟩:=Option.map_eq_some_iff.1 l1;obtain⟨nx,a0⟩:=x;simp only[Prod.mk.injEq]at i0;obtain⟨e1,e2,e3⟩:=i0;have z0:nx=.value (o (U u))\/(nx=.skip/\o (U u)=undef):=by
    cases nx<;>simp[EK]at e1
    ·exact .inl (by rw[e1])
    exact .inr ⟨rfl,e1.symm⟩
   refine AL.runsK (O:=[]) (B:=(U u)) ⟨U u,[],(0,0),[]⟩ a0 nx _ (hm:=hx) z0 (CQ u) (by rw[e3];rfl) λw' hL hK=>?_;have hB:Below (U u) u w':=hK.below (Nat.le_refl _) (λk hk=>by cases hk);refine⟨hu.trans (hB.mono hu.size),hB,U u,?_,hu.size,hL.sat.good _ (by rw[e2];simp)⟩;show[EM vals a _ a]=_;unfold EM;rw[if_pos rfl]
  | cons i l ih=>
   intro hl;refine⟨⟨λ_ _ _ _ _ h=>h,λvals u hu hb=>?_⟩,ih λj hj=>hl j (by simp[hj])⟩;replace hb:=IX hb;have c0:=hl i (by simp);have hs:=all_eq_true.1 b1 i c0;unfold GN at hs;rw[Bool.and_eq_true]at hs;have b0:M1 P n ops mem hints specs m E vals i=KY P n ops mem hints specs m E i:=by have h1:=hp vals;unfold Li JH at h1;exact(map_inj_left.1 h1) i c0
   unfold M1 KY at b0;simp only[Prod.mk.injEq]at b0;obtain⟨hop,q0,d⟩:=b0;have hρ:∀x∈(ops.getD i default).op.operands,DE n E (Dk ops (m++[a])) vals x=BK n (Ew P n ops mem hints specs m E i) x:=mB (by simp[c0]) x0 hop hb;have k0:∀cs b,(ops.getD i default).op≠.select cs b:=λcs b hh=>by
    have:=hs.1;unfold KQ at this;rw[hh]at this
    cases this
   show AL P (ops.getD i default) (DE n E (Dk ops (m++[a])) vals) u _;have d0:∀K',AL P (ops.getD i default) (BK n (Ew P n ops mem hints specs m E i)) u K'->AL P (ops.getD i default) (DE n E (Dk ops (m++[a])) vals) u K':=λK' h=>by unfold AL at h ⊢;rw[execOp_congr _ k0 hρ];exact h
   refine d0 _ ?_
   cases hsp:Hh specs i with
   | some sp=>
    rw[hsp]at q0 hs;have q:=JT hsp;have hi:=q.2;have m0:=hS u hu sp q.1 hs.2 (Ew P n ops mem hints specs m E i) (JF q0) u (Below.refl _ _);rw[hi]at m0;refine AL.of_quiet m0 (Below.refl _ _) λw' j0=>⟨hu.trans (j0.mono hu.size),j0,?_⟩;show[EM vals i sp.v i]=[D6 P n ops mem hints specs m E i];unfold EM D6 Mz;rw[hsp,if_pos rfl]
   | none=>
    rw[hsp]at d hs;simp only at d hs;obtain⟨x,hx⟩:=Option.isSome_iff_exists.1 hs.2;rw[hx]at d;simp only[Option.map_some,Option.some.injEq,Prod.mk.injEq]at d;obtain⟨nx,a0⟩:=x;have f:=d.1
    cases nx with
    | value v=>
     simp only[EK,Option.some.injEq]at f;refine AL.reads ⟨0,mem,Ih hints i,[]⟩ (BG hM hu) v (hv:=by rw[hx];rfl) (he:=by rw[hx];exact congrArg some d.2) ⟨hu,Below.refl _ _,?_⟩;show[EM vals i v i]=[D6 P n ops mem hints specs m E i];unfold EM;rw[if_pos rfl,f]
    | skip=>
     simp only[EK,Option.some.injEq]at f;have f1:(Dp P (execOp (BK n (Ew P n ops mem hints specs m E i)) (ops.getD i default)) ⟨0,mem,Ih hints i,[]⟩)=some (.skip,a0):=hx;have l0:=GK (w:=u) _ _ _ _ f1 (BG hM hu) (I0 d.2);unfold AL;rw[l0];refine⟨hu,Below.refl _ _,?_⟩;show[EM vals i undef i]=[D6 P n ops mem hints specs m E i];unfold EM;rw[if_pos rfl,f]
    | enter _ _=>simp[EK]at f
    | _=>simp[EK]at f
 have p0:(FH P n ops mem hints specs m E++[Mv w a (Eu ops m a) o p zero]).length=m.length+1:=by unfold FH;rw[length_append,length_map];rfl
 have y:(FH P n ops mem hints specs m E++[Mv w a (Eu ops m a) o p zero]).map (·.idx)=m++[a]:=by unfold FH;rw[map_append,map_map];show m.map (λi=>i)++[a]=_;rw[map_id']
 have d1:(m++[a]).Nodup:=by have:=FF (by have h:=hok;rw[Bool.and_eq_true]at h;exact h.1);rw[<-y];exact this.nodup
 refine Cm (md:=.any) (fuel:=r) (L:=FH P n ops mem hints specs m E++[Mv w a (Eu ops m a) o p zero]) (W:=Dk ops (m++[a])) (C:=λu=>Below (U w) w u) (Ext:=λu u'=>Below (U u) u u') (hok:=hok) (Below.refl _ _).drew (λu=>Below.refl _ _) (λa b c h k=>h.trans (k.mono h.size)) (parts m λi hi=>hi) (by rw[p0,hN]) λvals u hu _ v0=>?_;obtain⟨g0,e0⟩:=LN v0;obtain⟨g,k1,i1,r0⟩:∃g,vals a=o g/\(U w)<=g/\Ax.good u ⟨g,0,zero,p,true⟩:=by obtain⟨⟨g,h1,h2,h3⟩,_⟩:=e0;exact⟨g,(List.cons.inj h1).1,h2,h3⟩
 rw[y];have t0:Ly ops vals (m++[a]) E=A8 (DW P n ops mem hints specs m E) (C6 ops a) (o g):=by unfold Ly;rw[foldl_append];have:=M9 (mem:=mem) (hints:=hints) (specs:=specs) (P:=P) (n:=n) (E:=E) (vals:=vals) (nodup_append.1 d1).1 (λj hj=>Jk g0 j hj);unfold Ly at this;rw[this];show A8 _ _ (vals a)=_;rw[k1]
 rw[t0];refine hk u g ?_;have hO:AY (U w) u [Th.ent ⟨g,0,zero,p,true⟩]:=⟨hu.size,λi t hi=>?_,λi t hi k hk=>?_,λi j s t hi hj g1=>?_⟩
 ·have:=K.joinE (ζ:=[]) hu hO;rwa [append_nil]at this
 ·cases i with
  | zero=>obtain rfl:=Option.some.inj hi;exact r0
  | succ i=>simp at hi
 ·cases i with
  | zero=>
   obtain rfl:=Option.some.inj hi;obtain rfl:k=g:=hk;exact⟨i1,r0.1⟩
  | succ i=>simp at hi
 cases i with
 | zero=>cases j with
  | zero=>exact absurd rfl g1
  | succ j=>simp at hj
 | succ i=>simp at hi
attribute [local irreducible] BI BQ AD AE AG Au Ab AO A8 Bi Ct BX BO At Fr
theorem TI {w w':World} (h:w'=w):Below (U w) w w':=h ▸ Below.refl _ _
theorem Em {x y X η:Int} (hx:-X<=x) (b:x<=X) (c:0<=y) (a:y<=η) (d:0<=X):-(X*η)<=x*y/\x*y<=X*η:=by have f:=Int.mul_le_mul_of_nonneg_right b c;have h2:=Int.mul_le_mul_of_nonneg_left a d;have e:=Int.mul_le_mul_of_nonneg_right hx c;rw[Int.neg_mul]at e;omega
theorem Bt {n d:Int} (h:AV n d=true):1<=d/\d<=1000000/\-1000000000000<=n/\n<=1000000000000:=by have:=of_decide_eq_true h;omega
def GY (neg:Bool) (n1 d1 n2 d2:Nat):Int×Int×Int:=cond (decide ((n1/Nat.gcd n1 d2)*(n2/Nat.gcd n2 d1)<18446744073709551616)&&decide ((d1/Nat.gcd n2 d1)*(d2/Nat.gcd n1 d2)<18446744073709551616)) (LR neg ((n1/Nat.gcd n1 d2)*(n2/Nat.gcd n2 d1)) ((d1/Nat.gcd n2 d1)*(d2/Nat.gcd n1 d2))) (0,0,4)
noncomputable def aE:Code:=Tryz.f145.body.getD .skip
def r5:=ν [.code aE]
def r4:=Ψ r5
def rz:=Ac 2 (AD r4)
def ry:=Ac 3 (AO rz)
def rv:=Ac 4 (AO ry)
def bx:=Ω rv
def ADs:=Θ bx
def ru:=Ξ bx
def ADr:=Ψ ru
theorem Nt (neg:Bool) (f b d a:Nat) (w:World) (h1:f<=18446744073709551615) (h2:b<=18446744073709551615) (h3:d<=18446744073709551615) (h4:a<=18446744073709551615) (p1:0<b) (p2:0<a):Calls Tryz.prog 145 ([I neg,.int .u64 (f:Int),.int .u64 (b:Int),.int .u64 (d:Int),.int .u64 (a:Int)]:List Value).toArray w λe w'=>e=.returned (CY (GY neg f b d a))/\Below (U w) w w':=by
 refine AS (fn:=Tryz.f145) (c:=aE) (n:=57) ?_;have K1:=Wk.start w;refine An r5 [N (U w) [J 0,J 0] 47] K1 [] λw1 K2=>?_;refine BL (Of f a w1 h1 h4) λen w2 l=>?_;obtain⟨rfl,k,rfl⟩:=l;refine⟨_,rfl,?_⟩;have K3:=K2.below (GR (Below.refl _ _) k);refine AC r4 K3 [] λw3 K4=>?_;refine BL (Of d b w3 h3 h2) λen w4 l=>?_;obtain⟨rfl,k2,rfl⟩:=l;refine⟨_,rfl,?_⟩;have K5:=K4.below (GR (Below.refl _ _) k2);unfold GY;have hg:0<Nat.gcd f a:=Nat.gcd_pos_of_pos_right _ p2;have l:0<Nat.gcd d b:=Nat.gcd_pos_of_pos_right _ p1;have r:0<b/Nat.gcd d b:=Nat.div_pos (Nat.le_of_dvd p1 (Nat.gcd_dvd_right _ _)) l;have q:0<a/Nat.gcd f a:=Nat.div_pos (Nat.le_of_dvd p2 (Nat.gcd_dvd_right _ _)) hg;generalize Nat.gcd f a=g at hg q ⊢;generalize Nat.gcd d b=h at l r ⊢;have b1:=Nat.div_le_self f g;have b2:=Nat.div_le_self d h;have b3:=Nat.div_le_self b h;have b4:=Nat.div_le_self a g;refine Al 2 rz K5 [] λw5 K6=>?_;refine Ap K6 [] [⟨2,[(25,.int .u64 (f:Int)),(26,.int .u64 (g:Int))],.int .u64 ((f/g:Nat):Int),true⟩,⟨5,[(28,.int .u64 (d:Int)),(29,.int .u64 (h:Int))],.int .u64 ((d/h:Nat):Int),true⟩,⟨6,[(27,.int .u64 ((f/g:Nat):Int)),(30,.int .u64 ((d/h:Nat):Int))],.tuple #[.int .u64 (((f/g)*(d/h)/18446744073709551616:Nat):Int),.int .u64 (((f/g)*(d/h)%18446744073709551616:Nat):Int)],true⟩] K6.G (λsp i=>?_) λw6 E6 K7=>?_
 ·simp only[mem_cons,not_mem_nil,or_false]at i;rcases i with rfl | rfl | rfl
  ·exact BR λ_ E u _=>Iz (T:=141) (T':=141) (x:=.tmp 25) (y:=.tmp 26) (by kernel_rfl) (by kernel_rfl) (by kernel_rfl) hg h1
  ·exact BR λ_ E u _=>Iz (T:=141) (T':=141) (x:=.tmp 28) (y:=.tmp 29) (by kernel_rfl) (by kernel_rfl) (by kernel_rfl) l h3
  exact AU 159 [.tmp 27,.tmp 30] _ (λ_=>by kernel_rfl) λhc u hu=>AR hu ((Tryz.bits_Mul64 (f/g) (d/h) (by omega) (by omega) u).mono λe w' s=>⟨s.1,TI s.2⟩)
 refine Al 3 ry K7 [] λw7 K8=>?_;refine Ap K8 [] [⟨2,[(35,.int .u64 (b:Int)),(36,.int .u64 (h:Int))],.int .u64 ((b/h:Nat):Int),true⟩,⟨5,[(38,.int .u64 (a:Int)),(39,.int .u64 (g:Int))],.int .u64 ((a/g:Nat):Int),true⟩,⟨6,[(37,.int .u64 ((b/h:Nat):Int)),(40,.int .u64 ((a/g:Nat):Int))],.tuple #[.int .u64 (((b/h)*(a/g)/18446744073709551616:Nat):Int),.int .u64 (((b/h)*(a/g)%18446744073709551616:Nat):Int)],true⟩] K8.G (λsp i=>?_) λw8 E8 K9=>?_
 ·simp only[mem_cons,not_mem_nil,or_false]at i;rcases i with rfl | rfl | rfl
  ·exact BR λ_ E u _=>Iz (T:=141) (T':=141) (x:=.tmp 35) (y:=.tmp 36) (by kernel_rfl) (by kernel_rfl) (by kernel_rfl) l h2
  ·exact BR λ_ E u _=>Iz (T:=141) (T':=141) (x:=.tmp 38) (y:=.tmp 39) (by kernel_rfl) (by kernel_rfl) (by kernel_rfl) hg h4
  exact AU 159 [.tmp 37,.tmp 40] _ (λ_=>by kernel_rfl) λhc u hu=>AR hu ((Tryz.bits_Mul64 (b/h) (a/g) (by omega) (by omega) u).mono λe w' s=>⟨s.1,TI s.2⟩)
 have hD:0<(b/h)*(a/g):=Nat.mul_pos r q;generalize (f/g)*(d/h)=ι at *
 generalize (b/h)*(a/g)=χ at *
 refine Al 4 rv K9 [] λw9 z=>?_;refine Ap z [] [] z.G (λsp i=>by cases i) λg0 h0 b0=>?_;refine AC bx b0 [] λe0 v=>?_;refine AH (cond (((ι/18446744073709551616:Nat):Int) != 0) true (((χ/18446744073709551616:Nat):Int) != 0)) (λo=>?_) (λo=>?_)
 ·have hc:(decide (ι<18446744073709551616)&&decide (χ<18446744073709551616))=false:=by
   rw[Bool.and_eq_false_iff,decide_eq_false_iff_not,decide_eq_false_iff_not];by_cases m:ι<18446744073709551616
   ·rw[Nat.div_eq_of_lt m]at o;have c2:((χ/18446744073709551616:Nat):Int)≠0:=by simpa using o
    omega
   exact .inl m
  refine AC ADs v [(0,0)] λp j=>?_;exact AN j (0,0) (.tuple #[D [J 0,J 0],J 4]) ⟨by rw[hc];rfl,j.B⟩
 have m:ι<18446744073709551616/\χ<18446744073709551616:=by
  cases e1:(((ι/18446744073709551616:Nat):Int) != 0)with
  | true=>rw[e1]at o;cases o
  | false=>
   rw[e1]at o;have e2:((ι/18446744073709551616:Nat):Int)=0:=by simpa using e1
   have c2:((χ/18446744073709551616:Nat):Int)=0:=by simpa using o
   omega
 have hc:(decide (ι<18446744073709551616)&&decide (χ<18446744073709551616))=true:=by rw[decide_eq_true m.1,decide_eq_true m.2];rfl
 refine AC ru v [] λp j=>?_;refine AW j (Xm neg (ι%18446744073709551616) (χ%18446744073709551616) p (by omega) (by omega) (by omega)) λd0 a0=>?_;refine Ar ADr a0 [(0,0)] λc0 t=>?_;exact AN t (0,0) (CY (LR neg (ι%18446744073709551616) (χ%18446744073709551616))) ⟨by rw[hc,Nat.mod_eq_of_lt m.1,Nat.mod_eq_of_lt m.2];rfl,t.B⟩
def FL (a b c d:Int):Int×Int×Int:=cond (cond (!(AV a b)) true (!(AV c d))) (0,0,1) (F6 (a*d+c*b) (b*d))
noncomputable def aM:Code:=Tryz.f127.body.getD .skip
def sN:=Ac 1 [.code aM]
def cL:=Ω sN
def AEC:=Θ cL
def sM:=Ξ cL
def AEB:=Ψ sM
theorem YU (a b c d:Int) (w:World):Calls Tryz.prog 127 ([D [J a,J b],D [J c,J d]]:List Value).toArray w λe w'=>e=.returned (CY (FL a b c d))/\Below (U w) w w':=by
 refine AS (fn:=Tryz.f127) (c:=aM) (n:=34) ?_;have K1:=Wk.start w;refine Bg 1 sN [N (U w) [J a,J b] 47,N (U w+1) [J c,J d] 47,N (U w+2) [J 0,J 0] 47] K1 [] λw1 o=>?_;refine Ap o [(0,0,0),(4,1,0)] [⟨1,[(6,D [J a,J b])],I (AV a b),true⟩,⟨5,[(10,D [J c,J d])],I (AV c d),(!(!(AV a b)))&&true⟩] o.G (λsp f=>?_) λw2 E2 z=>?_
 ·rcases mem_cons.1 f with rfl | f
  ·exact AU 36 [.tmp 6] _ (λ_=>by kernel_rfl) λhc u hu=>AR hu (Bw a b u)
  obtain rfl:=mem_singleton.1 f;exact AU 36 [.tmp 10] _ (λ_=>by kernel_rfl) λhc u hu=>AR hu (Bw c d u)
 unfold FL;refine AC cL z [] λw3 m=>?_;refine AH (cond (!(AV a b)) true (!(AV c d))) (λg=>?_) (λg=>?_)
 ·refine AC AEC m [(2,0)] λi h=>?_;exact AN h (2,0) (.tuple #[D [J 0,J 0],J 1]) ⟨by rw[g];rfl,h.B⟩
 have hv:AV a b=true/\AV c d=true:=by cases h1:AV a b<;>cases h2:AV c d<;>rw[h1,h2]at g<;>first | exact⟨rfl,rfl⟩ | cases g
 obtain⟨a1,k,a3,a4⟩:=Bt hv.1;obtain⟨c2,j,t,s⟩:=Bt hv.2;refine AC sM m [(0,0),(1,1),(1,0),(0,1),(0,1),(1,1)] λi h=>?_;have m1:=Em (x:=a) (y:=d) (X:=1000000000000) (η:=1000000) a3 a4 (by omega) j (by decide);have m2:=Em (x:=c) (y:=b) (X:=1000000000000) (η:=1000000) t s (by omega) k (by decide);have m3:=Em (x:=b) (y:=d) (X:=1000000) (η:=1000000) (by omega) k (by omega) j (by decide);have r:IntKind.i64.wrap (IntKind.i64.wrap (a*d)+IntKind.i64.wrap (c*b))=a*d+c*b:=by rw[IntWalk.i64_in (a*d) (by omega),IntWalk.i64_in (c*b) (by omega),IntWalk.i64_in _ (by omega)]
 have q:IntKind.i64.wrap (b*d)=b*d:=IntWalk.i64_in _ (by omega);have p:=Pn (a*d+c*b) (b*d) i (by omega) (by omega) (by omega) (by omega);refine AW h (args:=[J (IntKind.i64.wrap (IntKind.i64.wrap (a*d)+IntKind.i64.wrap (c*b))),J (IntKind.i64.wrap (b*d))]) (by rw[r,q];exact p) λw5 v=>?_;refine Ar AEB v [(2,0)] λw6 l=>?_;exact AN l (2,0) (CY (F6 (a*d+c*b) (b*d))) ⟨by rw[g];rfl,l.B⟩
def PW (a b c d:Int):Int×Int×Int:=cond (cond (!(AV a b)) true (!(AV c d))) (0,0,1) (F6 (a*d-c*b) (b*d))
noncomputable def aC:Code:=Tryz.f128.body.getD .skip
def rq:=Ac 1 [.code aC]
def bv:=Ω rq
def ADo:=Θ bv
def rp:=Ξ bv
def ADn:=Ψ rp
theorem qM (a b c d:Int) (w:World):Calls Tryz.prog 128 ([D [J a,J b],D [J c,J d]]:List Value).toArray w λe w'=>e=.returned (CY (PW a b c d))/\Below (U w) w w':=by
 refine AS (fn:=Tryz.f128) (c:=aC) (n:=34) ?_;have K1:=Wk.start w;refine Bg 1 rq [N (U w) [J a,J b] 47,N (U w+1) [J c,J d] 47,N (U w+2) [J 0,J 0] 47] K1 [] λw1 o=>?_;refine Ap o [(0,0,0),(4,1,0)] [⟨1,[(6,D [J a,J b])],I (AV a b),true⟩,⟨5,[(10,D [J c,J d])],I (AV c d),(!(!(AV a b)))&&true⟩] o.G (λsp f=>?_) λw2 E2 z=>?_
 ·rcases mem_cons.1 f with rfl | f
  ·exact AU 36 [.tmp 6] _ (λ_=>by kernel_rfl) λhc u hu=>AR hu (Bw a b u)
  obtain rfl:=mem_singleton.1 f;exact AU 36 [.tmp 10] _ (λ_=>by kernel_rfl) λhc u hu=>AR hu (Bw c d u)
 unfold PW;refine AC bv z [] λw3 m=>?_;refine AH (cond (!(AV a b)) true (!(AV c d))) (λg=>?_) (λg=>?_)
 ·refine AC ADo m [(2,0)] λi h=>?_;exact AN h (2,0) (.tuple #[D [J 0,J 0],J 1]) ⟨by rw[g];rfl,h.B⟩
 have hv:AV a b=true/\AV c d=true:=by cases h1:AV a b<;>cases h2:AV c d<;>rw[h1,h2]at g<;>first | exact⟨rfl,rfl⟩ | cases g
 obtain⟨a1,k,a3,a4⟩:=Bt hv.1;obtain⟨c2,j,t,s⟩:=Bt hv.2;refine AC rp m [(0,0),(1,1),(1,0),(0,1),(0,1),(1,1)] λi h=>?_;have m1:=Em (x:=a) (y:=d) (X:=1000000000000) (η:=1000000) a3 a4 (by omega) j (by decide);have m2:=Em (x:=c) (y:=b) (X:=1000000000000) (η:=1000000) t s (by omega) k (by decide);have m3:=Em (x:=b) (y:=d) (X:=1000000) (η:=1000000) (by omega) k (by omega) j (by decide);have r:IntKind.i64.wrap (IntKind.i64.wrap (a*d)-IntKind.i64.wrap (c*b))=a*d-c*b:=by rw[IntWalk.i64_in (a*d) (by omega),IntWalk.i64_in (c*b) (by omega),IntWalk.i64_in _ (by omega)]
 have q:IntKind.i64.wrap (b*d)=b*d:=IntWalk.i64_in _ (by omega);have p:=Pn (a*d-c*b) (b*d) i (by omega) (by omega) (by omega) (by omega);refine AW h (args:=[J (IntKind.i64.wrap (IntKind.i64.wrap (a*d)-IntKind.i64.wrap (c*b))),J (IntKind.i64.wrap (b*d))]) (by rw[r,q];exact p) λw5 v=>?_;refine Ar ADn v [(2,0)] λw6 l=>?_;exact AN l (2,0) (CY (F6 (a*d-c*b) (b*d))) ⟨by rw[g];rfl,l.B⟩
def Pp (a b c d:Int):Int×Int×Int:=cond (cond (!(AV a b)) true (!(AV c d))) (0,0,1) (GY (decide (a<0) != decide (c<0)) a.natAbs b.natAbs c.natAbs d.natAbs)
noncomputable def Z5:Code:=Tryz.f129.body.getD .skip
def rj:=Ac 1 [.code Z5]
def bf:=Ω rj
def ADf:=Θ bf
def ri:=Ac 4 (AG bf)
def ADe:=Ω ri
theorem qc (a b c d:Int) (w:World):Calls Tryz.prog 129 ([D [J a,J b],D [J c,J d]]:List Value).toArray w λe w'=>e=.returned (CY (Pp a b c d))/\Below (U w) w w':=by
 refine AS (args:=[D [J a,J b],D [J c,J d]]) (fn:=Tryz.f129) (c:=Z5) (n:=39) ?_;have s:=Wk.start w;refine Bg 1 rj [N (U w) [J a,J b] 47,N (U w+1) [J c,J d] 47,N (U w+2) [J 0,J 0] 47] s [] λj o=>?_;refine Ap o [(0,0,0),(4,1,0)] [⟨1,[(7,D [J a,J b])],I (AV a b),true⟩,⟨5,[(11,D [J c,J d])],I (AV c d),(!(!(AV a b)))&&true⟩] o.G (λp f=>?_) λi E2 r=>?_
 ·rcases mem_cons.1 f with rfl | f
  ·exact AU 36 [.tmp 7] [D [J a,J b]] (λ_=>by kernel_rfl) λhc u hu=>AR hu (Bw a b u)
  obtain rfl:=mem_singleton.1 f;exact AU 36 [.tmp 11] [D [J c,J d]] (λ_=>by kernel_rfl) λhc u hu=>AR hu (Bw c d u)
 unfold Pp;refine AC bf r [] λw3 m=>?_;refine AH (cond (!(AV a b)) true (!(AV c d))) (λg=>?_) (λg=>?_)
 ·refine AC ADf m [(2,0)] λz l=>?_;exact AN l (2,0) (.tuple #[D [J 0,J 0],J 1]) ⟨by rw[g];rfl,l.B⟩
 have hv:AV a b=true/\AV c d=true:=by cases h1:AV a b<;>cases h2:AV c d<;>rw[h1,h2]at g<;>first | exact⟨rfl,rfl⟩ | cases g
 obtain⟨a1,a2,a3,a4⟩:=Bt hv.1;obtain⟨c2,c3,c4,c5⟩:=Bt hv.2;have j:IntKind.u64.wrap b=(b.natAbs:Int):=by rw[IntKind.wrap_u64];omega
 have i:IntKind.u64.wrap d=(d.natAbs:Int):=by rw[IntKind.wrap_u64];omega
 refine Al 4 ri m [(0,0),(1,0)] λy k=>?_;refine Fh k [0,1,2,3,4,5,6,7,8,9,10,11,12,13,14,15] [(2,0,0),(5,0,1),(8,1,0),(11,1,1)] [⟨3,[(25,J a)],.int .u64 (a.natAbs:Int),true⟩,⟨9,[(31,J c)],.int .u64 (c.natAbs:Int),true⟩,⟨13,[(23,I (decide (a<0) != decide (c<0))),(26,.int .u64 (a.natAbs:Int)),(29,.int .u64 (IntKind.u64.wrap b)),(32,.int .u64 (c.natAbs:Int)),(35,.int .u64 (IntKind.u64.wrap d))],CY (GY (decide (a<0) != decide (c<0)) a.natAbs b.natAbs c.natAbs d.natAbs),true⟩] [(16,2,0),(17,0,0)] k.G (λp f=>?_) λt x q=>?_
 ·simp only[mem_cons,not_mem_nil,or_false]at f;rcases f with rfl | rfl | rfl
  ·exact AU 71 [.tmp 25] [J a] (λ_=>by kernel_rfl) λhc u hu=>AR hu (JZ a u (by omega) (by omega))
  ·exact AU 71 [.tmp 31] [J c] (λ_=>by kernel_rfl) λhc u hu=>AR hu (JZ c u (by omega) (by omega))
  exact AU 145 [.tmp 23,.tmp 26,.tmp 29,.tmp 32,.tmp 35] [I (decide (a<0) != decide (c<0)),.int .u64 (a.natAbs:Int),.int .u64 (IntKind.u64.wrap b),.int .u64 (c.natAbs:Int),.int .u64 (IntKind.u64.wrap d)] (λ_=>by kernel_rfl) λhc u hu=>AR hu (by rw[j,i];exact Nt (decide (a<0) != decide (c<0)) a.natAbs b.natAbs c.natAbs d.natAbs u (by omega) (by omega) (by omega) (by omega) (by omega) (by omega))
 refine AC ADe q [] λv h=>?_;exact AN h (2,0) (CY (GY (decide (a<0) != decide (c<0)) a.natAbs b.natAbs c.natAbs d.natAbs)) ⟨by rw[g];rfl,h.B⟩
def L3 (a b c d:Int):Int×Int×Int:=cond (cond (!(AV a b)) true (!(AV c d))) (0,0,1) (cond (c==0) (0,0,5) (GY (decide (a<0) != decide (c<0)) a.natAbs b.natAbs d.natAbs c.natAbs))
noncomputable def aK:Code:=Tryz.f130.body.getD .skip
def sJ:=Ac 1 [.code aK]
def cH:=Ω sJ
def AD6:=Θ cH
def cG:=Ξ cH
def AD5:=Θ cG
def sI:=Ac 6 (AG cG)
def AD4:=Ω sI
theorem Xu (a b c d:Int) (w:World):Calls Tryz.prog 130 ([D [J a,J b],D [J c,J d]]:List Value).toArray w λe w'=>e=.returned (CY (L3 a b c d))/\Below (U w) w w':=by
 refine AS (args:=[D [J a,J b],D [J c,J d]]) (fn:=Tryz.f130) (c:=aK) (n:=43) ?_;have x:=Wk.start w;refine Bg 1 sJ [N (U w) [J a,J b] 47,N (U w+1) [J c,J d] 47,N (U w+2) [J 0,J 0] 47] x [] λl q=>?_;refine Ap q [(0,0,0),(4,1,0)] [⟨1,[(7,D [J a,J b])],I (AV a b),true⟩,⟨5,[(11,D [J c,J d])],I (AV c d),(!(!(AV a b)))&&true⟩] q.G (λs f=>?_) λk E2 v=>?_
 ·rcases mem_cons.1 f with rfl | f
  ·exact AU 36 [.tmp 7] [D [J a,J b]] (λ_=>by kernel_rfl) λhc u hu=>AR hu (Bw a b u)
  obtain rfl:=mem_singleton.1 f;exact AU 36 [.tmp 11] [D [J c,J d]] (λ_=>by kernel_rfl) λhc u hu=>AR hu (Bw c d u)
 unfold L3;refine AC cH v [] λw3 p=>?_;refine AH (cond (!(AV a b)) true (!(AV c d))) (λg=>?_) (λg=>?_)
 ·refine AC AD6 p [(2,0)] λr h=>?_;exact AN h (2,0) (.tuple #[D [J 0,J 0],J 1]) ⟨by rw[g];rfl,h.B⟩
 have hv:AV a b=true/\AV c d=true:=by cases h1:AV a b<;>cases h2:AV c d<;>rw[h1,h2]at g<;>first | exact⟨rfl,rfl⟩ | cases g
 obtain⟨a1,a2,a3,a4⟩:=Bt hv.1;obtain⟨c2,c3,c4,c5⟩:=Bt hv.2;refine AC cG p [(1,0)] λr h=>?_;refine AH (c==0) (λj=>?_) (λj=>?_)
 ·refine AC AD5 h [(2,0)] λw5 o=>?_;exact AN o (2,0) (.tuple #[D [J 0,J 0],J 5]) ⟨by rw[g,j];rfl,o.B⟩
 have hz:c≠0:=by simpa using j
 have l:IntKind.u64.wrap b=(b.natAbs:Int):=by rw[IntKind.wrap_u64];omega
 have k:IntKind.u64.wrap d=(d.natAbs:Int):=by rw[IntKind.wrap_u64];omega
 refine Al 6 sI h [(0,0),(1,0)] λw6 m=>?_;refine Fh m [0,1,2,3,4,5,6,7,8,9,10,11,12,13,14,15] [(2,0,0),(5,0,1),(8,1,1),(11,1,0)] [⟨3,[(29,J a)],.int .u64 (a.natAbs:Int),true⟩,⟨12,[(38,J c)],.int .u64 (c.natAbs:Int),true⟩,⟨13,[(27,I (decide (a<0) != decide (c<0))),(30,.int .u64 (a.natAbs:Int)),(33,.int .u64 (IntKind.u64.wrap b)),(36,.int .u64 (IntKind.u64.wrap d)),(39,.int .u64 (c.natAbs:Int))],CY (GY (decide (a<0) != decide (c<0)) a.natAbs b.natAbs d.natAbs c.natAbs),true⟩] [(16,2,0),(17,0,0)] m.G (λs f=>?_) λy w7 t=>?_
 ·simp only[mem_cons,not_mem_nil,or_false]at f;rcases f with rfl | rfl | rfl
  ·exact AU 71 [.tmp 29] [J a] (λ_=>by kernel_rfl) λhc u hu=>AR hu (JZ a u (by omega) (by omega))
  ·exact AU 71 [.tmp 38] [J c] (λ_=>by kernel_rfl) λhc u hu=>AR hu (JZ c u (by omega) (by omega))
  exact AU 145 [.tmp 27,.tmp 30,.tmp 33,.tmp 36,.tmp 39] [I (decide (a<0) != decide (c<0)),.int .u64 (a.natAbs:Int),.int .u64 (IntKind.u64.wrap b),.int .u64 (IntKind.u64.wrap d),.int .u64 (c.natAbs:Int)] (λ_=>by kernel_rfl) λhc u hu=>AR hu (by rw[l,k];exact Nt (decide (a<0) != decide (c<0)) a.natAbs b.natAbs d.natAbs c.natAbs u (by omega) (by omega) (by omega) (by omega) (by omega) (by omega))
 refine AC AD4 t [] λz i=>?_;exact AN i (2,0) (CY (GY (decide (a<0) != decide (c<0)) a.natAbs b.natAbs d.natAbs c.natAbs)) ⟨by rw[g,j];rfl,i.B⟩
def Ev (a b c d:Int):Int:=cond (cond (!(AV a b)) true (!(AV c d))) 0 (cond (decide (a*d<c*b)) (-1) (cond (decide (c*b<a*d)) 1 0))
noncomputable def aL:Code:=Tryz.f125.body.getD .skip
def sL:=Ac 1 [.code aL]
def cK:=Ω sL
def AEA:=Θ cK
def sK:=Ac 3 (AG cK)
def cJ:=Ω sK
def AD9:=Θ cJ
def cI:=Ξ cJ
def AD8:=Θ cI
def AD7:=Ξ cI
theorem P7 (a b c d:Int) (w:World):Calls Tryz.prog 125 ([D [J a,J b],D [J c,J d]]:List Value).toArray w λe w'=>e=.returned (J (Ev a b c d))/\Below (U w) w w':=by
 refine AS (fn:=Tryz.f125) (c:=aL) (n:=33) ?_;have K1:=Wk.start w;refine Bg 1 sL [N (U w) [J a,J b] 47,N (U w+1) [J c,J d] 47] K1 [] λw1 r=>?_;refine Ap r [(0,0,0),(4,1,0)] [⟨1,[(7,D [J a,J b])],I (AV a b),true⟩,⟨5,[(11,D [J c,J d])],I (AV c d),(!(!(AV a b)))&&true⟩] r.G (λz f=>?_) λw2 E2 K3=>?_
 ·rcases mem_cons.1 f with rfl | f
  ·exact AU 36 [.tmp 7] _ (λ_=>by kernel_rfl) λhc u hu=>AR hu (Bw a b u)
  obtain rfl:=mem_singleton.1 f;exact AU 36 [.tmp 11] _ (λ_=>by kernel_rfl) λhc u hu=>AR hu (Bw c d u)
 unfold Ev;refine AC cK K3 [] λw3 q=>?_;refine AH (cond (!(AV a b)) true (!(AV c d))) (λg=>?_) (λg=>?_)
 ·refine AC AEA q [] λv k=>?_;exact AN k (0,0) (J 0) ⟨by rw[g];rfl,k.B⟩
 have hv:AV a b=true/\AV c d=true:=by cases h1:AV a b<;>cases h2:AV c d<;>rw[h1,h2]at g<;>first | exact⟨rfl,rfl⟩ | cases g
 obtain⟨a1,a2,a3,a4⟩:=Bt hv.1;obtain⟨c2,c3,c4,c5⟩:=Bt hv.2;have m1:=Em (x:=a) (y:=d) (X:=1000000000000) (η:=1000000) a3 a4 (by omega) c3 (by decide);have m2:=Em (x:=c) (y:=b) (X:=1000000000000) (η:=1000000) c4 c5 (by omega) a2 (by decide);have o:IntKind.i64.wrap (a*d)=a*d:=IntWalk.i64_in _ (by omega);have m:IntKind.i64.wrap (c*b)=c*b:=IntWalk.i64_in _ (by omega);refine Al 3 sK q [] λv k=>?_;refine Ap k [(1,0,0),(3,1,1),(6,1,0),(8,0,1)] [] k.G (λz f=>by cases f) λw5 E5 K6=>?_;refine AC cJ K6 [] λw6 p=>?_;refine AH (decide (IntKind.i64.wrap (a*d)<IntKind.i64.wrap (c*b))) (λh=>?_) (λh=>?_)<;>rw[o,m]at h
 ·refine AC AD9 p [] λt j=>?_;exact AN j (0,0) (J (-1)) ⟨by rw[g,h];rfl,j.B⟩
 refine AC cI p [] λt j=>?_;refine AH (decide (IntKind.i64.wrap (c*b)<IntKind.i64.wrap (a*d))) (λl=>?_) (λl=>?_)<;>rw[o,m]at l
 ·refine AC AD8 j [] λs i=>?_;exact AN i (0,0) (J 1) ⟨by rw[g,h,l];rfl,i.B⟩
 refine AC AD7 j [] λs i=>?_;exact AN i (0,0) (J 0) ⟨by rw[g,h,l];rfl,i.B⟩
def SM (a b:Int):Int×Int×Int:=cond (!(AV a b)) (0,0,1) (-a,b,0)
noncomputable def aG:Code:=Tryz.f106.body.getD .skip
def sD:=ν [.code aG]
def cB:=Ψ sD
def ADx:=Θ cB
def ADw:=Ξ cB
theorem qa (a b:Int) (w:World):Calls Tryz.prog 106 ([D [J a,J b]]:List Value).toArray w λe w'=>e=.returned (CY (SM a b))/\Below (U w) w w':=by
 refine AS (fn:=Tryz.f106) (c:=aG) (n:=14) ?_;have m:=Wk.start w;refine An sD [N (U w) [J a,J b] 47,N (U w+1) [J 0,J 0] 47] m [(0,0)] λj l=>?_;refine AW l (args:=[D [J a,J b]]) (Bw a b j) λp k=>?_;refine AC cB k [] λo h=>?_;unfold SM;refine AH (!(AV a b)) (λg=>?_) (λg=>?_)
 ·refine AC ADx h [(1,0)] λi f=>?_;exact AN f (1,0) (.tuple #[D [J 0,J 0],J 1]) ⟨by rw[g];rfl,f.B⟩
 obtain⟨r,q,a3,a4⟩:=Bt (n:=a) (d:=b) (by simpa using g);refine Ar ADw h [(0,0),(0,1),(1,0)] λi f=>?_;refine AN f (1,0) (.tuple #[D [J (IntKind.i64.wrap (0-a)),J b],J 0]) ⟨?_,f.B⟩;rw[IntWalk.i64_in (0-a) (by omega),Int.zero_sub,g];rfl
def JX (p0:Int):Bool:=cond (decide (0<=p0)) (decide (p0<=6)) (false)
noncomputable def aI:Code:=Tryz.f67.body.getD .skip
def sE:=Ac 1 ([.code aI])
def AD0:=Ω sE
theorem Yh (b:Int) (w:World):Calls Tryz.prog 67 ([J b]:List Value).toArray w λe w'=>e=.returned (I (JX b))/\Below (U w) w w':=by refine AS (fn:=Tryz.f67) (c:=aI) (n:=9) ?_;have h:=Wk.start w;refine Al 1 sE h [] λk d=>?_;refine Ap d [] [] d.G (λl a=>by cases a) λj m g=>?_;refine AC AD0 g [] λi f=>?_;exact AQ f (0,0) _ (by unfold JX;rfl)
def FO (p0:Int) (p1:Int) (p2:Bool) (p3:Int):Bool:=cond (p3==0) (!(p2)) (cond (p3==1) (p2) (cond (p3==2) (false) (cond (p3==3) (true) (cond (!(p1==0)) (decide (0<p1)) (cond (p3==4) (p2) (cond (p3==5) (!(p2)) (!(Int.tmod p0 2==0))))))))
noncomputable def aB:Code:=Tryz.f109.body.getD .skip
def bq:=ν ([.code aB])
def ADm:=Θ bq
def bo:=Ξ bq
def ADl:=Θ bo
def bm:=Ξ bo
def ADk:=Θ bm
def bk:=Ξ bm
def ADj:=Θ bk
def bj:=Ξ bk
def ADi:=Θ bj
def U3:=Ξ bj
def yd:=Θ U3
def U2:=Ξ U3
def yc:=Θ U2
def im:=Ac 17 (AG U2)
def yb:=Ω im
theorem bI (q p1:Int) (p:Bool) (g:Int) (w:World):Calls Tryz.prog 109 ([J q,J p1,I p,J g]:List Value).toArray w λe w'=>e=.returned (I (FO q p1 p g))/\Below (U w) w w':=by
 refine AS (fn:=Tryz.f109) (c:=aB) (n:=36) ?_;have K1:=Wk.start w;refine AC bq K1 [] λw1 K2=>?_;refine AH (g==0) (λd=>?_) (λd=>?_)
 ·refine AC ADm K2 [] λw3 K3=>?_;exact AQ K3 (0,0) _ (by unfold FO;rw[d]<;>rfl)
 refine AC bo K2 [] λw4 K4=>?_;refine AH (g==1) (λh=>?_) (λh=>?_)
 ·refine AC ADl K4 [] λw6 K5=>?_;exact AQ K5 (0,0) (I p) (by unfold FO;rw[d,h]<;>rfl)
 refine AC bm K4 [] λw7 K6=>?_;refine AH (g==2) (λi=>?_) (λi=>?_)
 ·refine AC ADk K6 [] λw9 K7=>?_;exact AQ K7 (0,0) _ (by unfold FO;rw[d,h,i]<;>rfl)
 refine AC bk K6 [] λm0 K8=>?_;refine AH (g==3) (λa=>?_) (λa=>?_)
 ·refine AC ADj K8 [] λl0 K9=>?_;exact AQ K9 (0,0) _ (by unfold FO;rw[d,h,i,a]<;>rfl)
 refine AC bj K8 [] λk0 o=>?_;refine AH (!(p1==0)) (λb=>?_) (λb=>?_)
 ·refine AC ADi o [] λj0 a0=>?_;exact AQ a0 (0,0) _ (by unfold FO;rw[d,h,i,a,b]<;>rfl)
 refine AC U3 o [] λi0 m=>?_;refine AH (g==4) (λf=>?_) (λf=>?_)
 ·refine AC yd m [] λh0 z=>?_;exact AQ z (0,0) (I p) (by unfold FO;rw[d,h,i,a,b,f]<;>rfl)
 refine AC U2 m [] λg0 l=>?_;refine AH (g==5) (λj=>?_) (λj=>?_)
 ·refine AC yc l [] λe0 v=>?_;exact AQ v (0,0) _ (by unfold FO;rw[d,h,i,a,b,f,j]<;>rfl)
 refine Al 17 im l [] λd0 k=>?_;refine Ap k [] [⟨1,[(33,J q)],J (Int.tmod q 2),true⟩] k.G (λsp r=>?_) λc0 q0 t=>?_
 ·rw[mem_singleton.1 r];exact BR λhc E u _=>LS (T:=3) (T':=3) (x:=.tmp 33) (y:=.const (J 2)) (by kernel_rfl) (by kernel_rfl) (by kernel_rfl) (by omega)
 refine AC yb t [] λb0 s=>?_;exact AQ s (0,0) _ (by unfold FO;rw[d,h,i,a,b,f,j]<;>rfl)
def I2 (p0:Int):Bool:=!(p0==p0)
noncomputable def X0:Code:=Tryz.f131.body.getD .skip
def ye:=ν ([.code X0])
theorem R0 (a:Int) (w:World):Calls Tryz.prog 131 ([J a]:List Value).toArray w λe w'=>e=.returned (I (I2 a))/\Below (U w) w w':=by refine AS (fn:=Tryz.f131) (c:=X0) (n:=6) ?_;have d:=Wk.start w;refine AC ye d [] λf b=>?_;exact AQ b (0,0) _ (by unfold I2;rfl)
def Es (p0:Int) (p1:Int):Int:=cond (I2 p0) (cond (I2 p1) (0) (-1)) (cond (I2 p1) (1) (cond (decide (p0<p1)) (-1) (cond (decide (p1<p0)) (1) (0))))
noncomputable def X1:Code:=Tryz.f110.body.getD .skip
def ip:=ν ([.code X1])
def io:=Ψ ip
def U7:=Ψ io
def U6:=Θ U7
def yi:=Θ U6
def yh:=Ξ U6
def U5:=Ξ U7
def yg:=Θ U5
def U4:=Ξ U5
def yf:=Θ U4
def SC:=Ξ U4
def xW:=Θ SC
def xV:=Ξ SC
theorem gz (g p1:Int) (w:World):Calls Tryz.prog 110 ([J g,J p1]:List Value).toArray w λe w'=>e=.returned (J (Es g p1))/\Below (U w) w w':=by
 refine AS (fn:=Tryz.f110) (c:=X1) (n:=20) ?_;have K1:=Wk.start w;refine AC ip K1 [] λw1 K2=>?_;refine AW K2 (R0 g w1) λw2 K3=>?_;refine AC io K3 [] λs K4=>?_;refine AW K4 (R0 p1 s) λw4 K5=>?_;refine AC U7 K5 [] λw5 r=>?_;refine AH (I2 g) (λd=>?_) (λd=>?_)
 ·refine AC U6 r [] λw7 q=>?_;refine AH (I2 p1) (λk=>?_) (λk=>?_)
  ·refine AC yi q [] λw9 K8=>?_;exact AQ K8 (0,0) _ (by unfold Es;rw[d,k]<;>rfl)
  refine AC yh q [] λb0 K9=>?_;exact AQ K9 (0,0) _ (by unfold Es;rw[d,k]<;>rfl)
 refine AC U5 r [] λa0 j=>?_;refine AH (I2 p1) (λa=>?_) (λa=>?_)
 ·refine AC yg j [] λz p=>?_;exact AQ p (0,0) _ (by unfold Es;rw[d,a]<;>rfl)
 refine AC U4 j [] λy i=>?_;refine AH (decide (g<p1)) (λb=>?_) (λb=>?_)
 ·refine AC yf i [] λx o=>?_;exact AQ o (0,0) _ (by unfold Es;rw[d,a,b]<;>rfl)
 refine AC SC i [] λv h=>?_;refine AH (decide (p1<g)) (λf=>?_) (λf=>?_)
 ·refine AC xW h [] λu m=>?_;exact AQ m (0,0) _ (by unfold Es;rw[d,a,b,f]<;>rfl)
 refine AC xV h [] λt l=>?_;exact AQ l (0,0) _ (by unfold Es;rw[d,a,b,f]<;>rfl)
section
variable {P:Program} {o:Oper} {ρ:Operand->Value} {w:World}
theorem TP {T T':TypeId} {x y:Operand} {a b:Int} (hop:o.op=.binOp .quo T x y T') (hx:ρ x=J a) (c:ρ y=J b) (hb:b≠0):(execOp ρ o).run P w=.ok (.value (J (IntKind.i64.wrap (a.tdiv b)))) w:=by unfold execOp;simp[hop,hx,c,binOp,Op.intDiv,hb,eqGuard]
end
def Gi (n d:Int):Int×Int:=cond (decide (n.tmod d<0)) (n.tdiv d-1,n.tmod d+d) (n.tdiv d,n.tmod d)
def JB (n d m:Int):Int:=cond (cond (!((Gi n d).2==0)) (FO (Gi n d).1 (Es (Gi n d).2 (d-(Gi n d).2)) (decide (0<n)) m) false) ((Gi n d).1+1) (Gi n d).1
theorem xU {n d:Int} (hd:1<=d) (b:-2000000000000000000<=n) (a:n<=2000000000000000000):-2000000000000000000<=n.tdiv d/\n.tdiv d<=2000000000000000000:=by have h2:(n.tdiv d).natAbs<=n.natAbs:=Int.natAbs_tdiv_le_natAbs n d;omega
theorem ZG {n d:Int} (hd:1<=d):-d<n.tmod d/\n.tmod d<d:=⟨by have:=Int.lt_tmod_of_pos n (b:=d) (by omega);omega,Int.tmod_lt_of_pos n (by omega)⟩
noncomputable def aD:Code:=Tryz.f68.body.getD .skip
def rt:=Ac 1 [.code aD]
def rr:=Ω rt
def T8:=Ac 4 (AE rr)
def bw:=Ω T8
def ADq:=Θ bw
def ADp:=Ξ bw
theorem XJ {R:Ending->World->Prop} (n d m q r:Int) (E:Nat->Value) (w0 w:World) (K:Wk w0 w [] [] []) (v:1<=d) (h2:d<=2000000000000000000) (t:-3000000000000000000<=q) (s:q<=3000000000000000000) (p:0<=r) (o:r<d) (hR:∀w',Below (U w0) w0 w'->R (.returned (J (cond (cond (!(r==0)) (FO q (Es r (d-r)) (decide (0<n)) m) false) (q+1) q))) w') :
  At Tryz.prog 68 R T8 (Fr 39 (BN E [(0,J n),(1,J d),(2,J m),(7,J q),(8,J r)])) w:=by
 have h:IntKind.i64.wrap (d-r)=d-r:=IntWalk.i64_in _ (by omega);have g:IntKind.i64.wrap (q+1)=q+1:=IntWalk.i64_in _ (by omega);refine Ap K [] [⟨8,[(26,J r),(29,J (IntKind.i64.wrap (d-r)))],J (Es r (d-r)),(!(r==0))&&true⟩,⟨12,[(25,J q),(30,J (Es r (d-r))),(32,I (decide (0<n))),(33,J m)],I (FO q (Es r (d-r)) (decide (0<n)) m),(!(r==0))&&true⟩] K.G (λl a=>?_) λk x i=>?_
 ·simp only[mem_cons,not_mem_nil,or_false]at a;rcases a with rfl | rfl
  ·exact AU 110 [.tmp 26,.tmp 29] [J r,J (IntKind.i64.wrap (d-r))] (λ_=>by kernel_rfl) λhc u hu=>AR hu (by rw[h];exact gz r (d-r) u)
  exact AU 109 [.tmp 25,.tmp 30,.tmp 32,.tmp 33] [J q,J (Es r (d-r)),I (decide (0<n)),J m] (λ_=>by kernel_rfl) λhc u hu=>AR hu (bI q (Es r (d-r)) (decide (0<n)) m u)
 refine AC bw i [] λj e=>?_;refine AH (cond (!(r==0)) (FO q (Es r (d-r)) (decide (0<n)) m) false) (λc=>?_) (λc=>?_)<;>rw[c]at hR
 ·refine AC ADq e [] λf b=>?_;refine AN b (0,0) (J (IntKind.i64.wrap (q+1))) ?_;rw[g];exact hR _ b.B
 refine AC ADp e [] λf b=>?_;exact AN b (0,0) (J q) (hR _ b.B)
theorem mH (n d m:Int) (w:World) (r:-2000000000000000000<=n) (q:n<=2000000000000000000) (h2:1<=d) (k:d<=2000000000000000000):Calls Tryz.prog 68 ([J n,J d,J m]:List Value).toArray w λe w'=>e=.returned (J (JB n d m))/\Below (U w) w w':=by
 refine AS (fn:=Tryz.f68) (c:=aD) (n:=39) ?_;have t:=Wk.start w;obtain⟨b1,b2⟩:=xU (n:=n) h2 r q;obtain⟨b3,b4⟩:=ZG (n:=n) h2;have l:IntKind.i64.wrap (n.tdiv d)=n.tdiv d:=IntWalk.i64_in _ (by omega);refine Al 1 rt t [] λw1 p=>?_;refine Ap p [] [⟨2,[(9,J n),(10,J d)],J (IntKind.i64.wrap (n.tdiv d)),true⟩,⟨5,[(12,J n),(13,J d)],J (n.tmod d),true⟩] p.G (λsp a=>?_) λz E2 s=>?_
 ·rcases mem_cons.1 a with rfl | a
  ·exact BR λ_ E u _=>TP (T:=3) (T':=3) (x:=.tmp 9) (y:=.tmp 10) (by kernel_rfl) (by kernel_rfl) (by kernel_rfl) (by omega)
  obtain rfl:=mem_singleton.1 a;exact BR λ_ E u _=>LS (T:=3) (T':=3) (x:=.tmp 12) (y:=.tmp 13) (by kernel_rfl) (by kernel_rfl) (by kernel_rfl) (by omega)
 refine AC rr s [] λv o=>?_;refine AH (decide (n.tmod d<0)) (λf=>?_) (λf=>?_)
 ·have hn:n.tmod d<0:=of_decide_eq_true f;have h:Gi n d=(n.tdiv d-1,n.tmod d+d):=by unfold Gi;rw[f];rfl
  refine Al 4 T8 o [] λg i=>?_;refine AX [(0,J n),(1,J d),(2,J m),(7,J (IntKind.i64.wrap (IntKind.i64.wrap (n.tdiv d)-1))),(8,J (IntKind.i64.wrap (n.tmod d+d)))] λj=>?_;rw[l,IntWalk.i64_in (n.tdiv d-1) (by omega),IntWalk.i64_in (n.tmod d+d) (by omega)];refine XJ n d m (n.tdiv d-1) (n.tmod d+d) j w g i h2 k (by omega) (by omega) (by omega) (by omega) λw' b=>⟨?_,b⟩;unfold JB;rw[h]
 have hn:¬n.tmod d<0:=of_decide_eq_false f;have h:Gi n d=(n.tdiv d,n.tmod d):=by unfold Gi;rw[f];rfl
 refine Al 4 T8 o [] λg i=>?_;refine AX [(0,J n),(1,J d),(2,J m),(7,J (IntKind.i64.wrap (n.tdiv d))),(8,J (n.tmod d))] λj=>?_;rw[l];refine XJ n d m (n.tdiv d) (n.tmod d) j w g i h2 k (by omega) (by omega) (by omega) (by omega) λw' b=>⟨?_,b⟩;unfold JB;rw[h]
theorem xD (x:Int):-9223372036854775808<=IntKind.i64.wrap x/\IntKind.i64.wrap x<=9223372036854775807:=by rw[IntKind.wrap_i64];omega
def Ds (a b c d m:Int):Int×Int×Int:=cond (cond (!(AV a b)) true (!(AV c d))) (0,0,1) (cond (cond (decide (c<=0)) true (!(JX m))) (0,0,2) (F6 (IntKind.i64.wrap (JB (a*d) (b*c) m*c)) d))
noncomputable def aF:Code:=Tryz.f35.body.getD .skip
def sC:=Ac 1 [.code aF]
def cA:=Ω sC
def ADv:=Θ cA
def r8:=Ac 3 (AG cA)
def bz:=Ω r8
def ADu:=Θ bz
def r7:=Ξ bz
def r6:=Ψ r7
def ADt:=Ψ r6
theorem RD (a b c d m:Int) (w:World):Calls Tryz.prog 35 ([D [J a,J b],D [J c,J d],J m]:List Value).toArray w λe w'=>e=.returned (CY (Ds a b c d m))/\Below (U w) w w':=by
 refine AS (fn:=Tryz.f35) (c:=aF) (n:=48) ?_;have K1:=Wk.start w;refine Bg 1 sC [N (U w) [J a,J b] 47,N (U w+1) [J c,J d] 47,N (U w+2) [J 0,J 0] 47] K1 [] λw1 v=>?_;refine Ap v [(0,0,0),(4,1,0)] [⟨1,[(9,D [J a,J b])],I (AV a b),true⟩,⟨5,[(13,D [J c,J d])],I (AV c d),(!(!(AV a b)))&&true⟩] v.G (λsp f=>?_) λw2 E2 K3=>?_
 ·rcases mem_cons.1 f with rfl | f
  ·exact AU 36 [.tmp 9] _ (λ_=>by kernel_rfl) λhc u hu=>AR hu (Bw a b u)
  obtain rfl:=mem_singleton.1 f;exact AU 36 [.tmp 13] _ (λ_=>by kernel_rfl) λhc u hu=>AR hu (Bw c d u)
 unfold Ds;refine AC cA K3 [] λw3 t=>?_;refine AH (cond (!(AV a b)) true (!(AV c d))) (λg=>?_) (λg=>?_)
 ·refine AC ADv t [(2,0)] λw4 i=>?_;exact AN i (2,0) (.tuple #[D [J 0,J 0],J 1]) ⟨by rw[g];rfl,i.B⟩
 have hv:AV a b=true/\AV c d=true:=by cases h1:AV a b<;>cases h2:AV c d<;>rw[h1,h2]at g<;>first | exact⟨rfl,rfl⟩ | cases g
 obtain⟨a1,a2,a3,a4⟩:=Bt hv.1;obtain⟨c2,c3,c4,c5⟩:=Bt hv.2;refine Al 3 r8 t [] λw4 i=>?_;refine Ap i [(1,1,0)] [⟨5,[(22,J m)],I (JX m),(!(decide (c<=0)))&&true⟩] i.G (λsp f=>?_) λw5 E5 K6=>?_
 ·obtain rfl:=mem_singleton.1 f;exact AU 67 [.tmp 22] _ (λ_=>by kernel_rfl) λhc u hu=>AR hu (Yh m u)
 refine AC bz K6 [] λw6 s=>?_;refine AH (cond (decide (c<=0)) true (!(JX m))) (λh=>?_) (λh=>?_)
 ·refine AC ADu s [(2,0)] λq k=>?_;exact AN k (2,0) (.tuple #[D [J 0,J 0],J 2]) ⟨by rw[g,h];rfl,k.B⟩
 have l:0<c:=by
  cases hd:decide (c<=0)with
  | true=>rw[hd]at h;cases h
  | false=>have:=of_decide_eq_false hd;omega
 have m1:=Em (x:=a) (y:=d) (X:=1000000000000) (η:=1000000) a3 a4 (by omega) c3 (by decide);have m2:=Em (x:=b) (y:=c) (X:=1000000) (η:=1000000000000) (by omega) a2 (by omega) c5 (by decide);have m3:0<b*c:=Int.mul_pos (by omega) l;have e1:IntKind.i64.wrap (a*d)=a*d:=IntWalk.i64_in _ (by omega);have e2:IntKind.i64.wrap (b*c)=b*c:=IntWalk.i64_in _ (by omega);refine AC r7 s [(0,0),(1,1),(0,1),(1,0)] λq k=>?_;refine AW k (args:=[J (IntKind.i64.wrap (a*d)),J (IntKind.i64.wrap (b*c)),J m]) (by rw[e1,e2];exact mH (a*d) (b*c) m q (by omega) (by omega) (by omega) (by omega)) λw8 K9=>?_;refine AC r6 K9 [(1,0),(1,1)] λz p=>?_;have r:=xD (JB (a*d) (b*c) m*c);refine AW p (Pn (IntKind.i64.wrap (JB (a*d) (b*c) m*c)) d z r.1 r.2 (by omega) (by omega)) λb0 o=>?_;refine Ar ADt o [(2,0)] λa0 j=>?_;exact AN j (2,0) (CY (F6 (IntKind.i64.wrap (JB (a*d) (b*c) m*c)) d)) ⟨by rw[g,h];rfl,j.B⟩
end
end Go.Proofs.YtkpemkkbjfbmaaaGreat

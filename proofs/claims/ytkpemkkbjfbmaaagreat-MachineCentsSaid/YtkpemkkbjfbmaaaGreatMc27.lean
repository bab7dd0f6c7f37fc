/- Contracts of functions, part 27. -/
import Derived.Test.YtkpemkkbjfbmaaaGreatMc26
import Derived.Test.YtkpemkkbjfbmaaaGreatMc19
set_option linter.all false
namespace Go.Proofs.YtkpemkkbjfbmaaaGreat
open List
open Go.RowKit
set_option maxRecDepth 100000
set_option maxHeartbeats 1000000
theorem SL (n d:Int):D1 n d=F6 n d:=by
 unfold D1 F6;by_cases h:d=0
 ·rw[if_pos h,h];rfl
 rw[if_neg h,show(d==0)=false by simpa using h,cond_false];unfold KE Tk.newR LR;generalize n.natAbs/Nat.gcd n.natAbs d.natAbs=x;generalize d.natAbs/Nat.gcd n.natAbs d.natAbs=y;by_cases h1:x>1000000000000\/y>1000000
 ·rw[if_pos h1,show(decide (1000000000000<x)||decide (1000000<y))=true by simpa using h1];rfl
 rw[if_neg h1,show(decide (1000000000000<x)||decide (1000000<y))=false by simp;omega]
 cases decide (n<0)<;>cases decide (d<0)<;>rfl
theorem N0 {n d:Int} (hd:0<d) (h:(F6 n d).2.2=0):(F6 n d).1*d=n*(F6 n d).2.1/\AV (F6 n d).1 (F6 n d).2.1=true:=by
 refine⟨?_,Oa n d h⟩;unfold F6 at h ⊢;rw[show(d==0)=false by simp;omega,cond_false]at h ⊢;unfold LR at h ⊢
 cases hc:(decide (1000000000000<n.natAbs/Nat.gcd n.natAbs d.natAbs)||decide (1000000<d.natAbs/Nat.gcd n.natAbs d.natAbs))
 ·have hx:n.natAbs=Nat.gcd n.natAbs d.natAbs*(n.natAbs/Nat.gcd n.natAbs d.natAbs):=(Nat.mul_div_cancel' (Nat.gcd_dvd_left _ _)).symm;have c:d.natAbs=Nat.gcd n.natAbs d.natAbs*(d.natAbs/Nat.gcd n.natAbs d.natAbs):=(Nat.mul_div_cancel' (Nat.gcd_dvd_right _ _)).symm;generalize n.natAbs/Nat.gcd n.natAbs d.natAbs=x at *
  generalize d.natAbs/Nat.gcd n.natAbs d.natAbs=y at *
  generalize Nat.gcd n.natAbs d.natAbs=g at *
  have b:d=(g:Int)*y:=by rw[<-Int.natCast_mul,<-c];omega
  rw[decide_eq_false (show ¬d<0 by omega)];by_cases hn:n<0
  ·have a:n=-((g:Int)*x):=by rw[<-Int.natCast_mul,<-hx];omega
   rw[decide_eq_true hn];show -(x:Int)*d=n*(y:Int);rw[b,a,Int.neg_mul,Int.neg_mul];congr 1
   ac_rfl
  have a:n=(g:Int)*x:=by rw[<-Int.natCast_mul,<-hx];omega
  rw[decide_eq_false hn];show(x:Int)*d=n*(y:Int);rw[b,a]
  ac_rfl
 rw[hc]at h
 cases h
theorem xi {n d x y:Int} (hd:0<d) (hv:AV x y=true) (h:x*d=n*y):F6 n d=(x,y,0):=by
 obtain⟨p,o,r,q⟩:=Bt hv;have hg:=H1 hv;have l:0<y:=by omega
 have k:x.natAbs*d.natAbs=n.natAbs*y.natAbs:=by rw[<-Int.natAbs_mul,<-Int.natAbs_mul,h]
 have i:y.natAbs∣d.natAbs:=by have f:y.natAbs∣x.natAbs*d.natAbs:=⟨n.natAbs,by rw[k,Nat.mul_comm]⟩;exact(Nat.Coprime.symm hg).dvd_of_dvd_mul_left f
 obtain⟨t,ht⟩:=i;have a:0<t:=Nat.pos_of_ne_zero λe=>by rw[e,Nat.mul_zero]at ht;omega
 have c:n.natAbs=x.natAbs*t:=by rw[ht,<-Nat.mul_assoc,Nat.mul_right_comm]at k;exact(Nat.eq_of_mul_eq_mul_right (by omega) k).symm
 have m:Nat.gcd n.natAbs d.natAbs=t:=by rw[c,ht,Nat.gcd_mul_right,hg,Nat.one_mul]
 unfold F6;rw[show(d==0)=false by simp;omega,cond_false];unfold LR;rw[m];rw[show n.natAbs/t=x.natAbs by rw[c];exact Nat.mul_div_cancel _ a,show d.natAbs/t=y.natAbs by rw[ht];exact Nat.mul_div_cancel _ a];rw[decide_eq_false (show ¬ 1000000000000<x.natAbs by omega),decide_eq_false (show ¬ 1000000<y.natAbs by omega),decide_eq_false (show ¬d<0 by omega)];have b:n<0↔x<0:=by
  have g:n=x*t:=by
   have j:d=y*t:=by
    have:(d.natAbs:Int)=(y.natAbs:Int)*t:=by rw[ht,Int.natCast_mul]
    rw[show((d.natAbs:Nat):Int)=d by omega,show((y.natAbs:Nat):Int)=y by omega]at this;exact this
   rw[j,<-Int.mul_assoc,Int.mul_right_comm]at h;exact(Int.eq_of_mul_eq_mul_right (by omega) h).symm
  rw[g];constructor
  ·intro f;by_cases hx:x<0
   ·exact hx
   exact absurd f (by have:=Int.mul_nonneg (show 0<=x by omega) (show(0:Int)<=t by omega);omega)
  intro f;exact Int.mul_neg_of_neg_of_pos f (by omega)
 by_cases hn:n<0
 ·rw[decide_eq_true hn];have:=b.1 hn;show(-((x.natAbs:Nat):Int),((y.natAbs:Nat):Int),(0:Int))=(x,y,0);rw[show -((x.natAbs:Nat):Int)=x by omega,show((y.natAbs:Nat):Int)=y by omega]
 rw[decide_eq_false hn];have:¬x<0:=λe=>hn (b.2 e);show(((x.natAbs:Nat):Int),((y.natAbs:Nat):Int),(0:Int))=(x,y,0);rw[show((x.natAbs:Nat):Int)=x by omega,show((y.natAbs:Nat):Int)=y by omega]
theorem mG {n χ m:Int} (a:0<χ):-χ<JB n χ m*χ-n/\JB n χ m*χ-n<χ:=by
 have c:=Int.tmod_add_mul_tdiv n χ;have b:=ZG (n:=n) (d:=χ) (by omega);have key:(Gi n χ).1*χ+(Gi n χ).2=n/\0<=(Gi n χ).2/\(Gi n χ).2<χ:=by
  unfold Gi
  cases hc:decide (n.tmod χ<0)
  ·have:=of_decide_eq_false hc;show n.tdiv χ*χ+n.tmod χ=n/\0<=n.tmod χ/\n.tmod χ<χ;rw[Int.mul_comm];omega
  have:=of_decide_eq_true hc;show(n.tdiv χ-1)*χ+(n.tmod χ+χ)=n/\0<=n.tmod χ+χ/\n.tmod χ+χ<χ;rw[Int.sub_mul,Int.one_mul,Int.mul_comm];omega
 unfold JB;generalize Gi n χ=p at key ⊢;obtain⟨q,r⟩:=p;dsimp only at key ⊢
 cases hr:r==0
 ·have:r≠0:=by simpa using hr
  cases FO q (Es r (χ-r)) (decide (0<n)) m
  ·show -χ<q*χ-n/\q*χ-n<χ;omega
  show -χ<(q+1)*χ-n/\(q+1)*χ-n<χ;rw[Int.add_mul,Int.one_mul];omega
 show -χ<q*χ-n/\q*χ-n<χ;omega
theorem l9 {a b c d m:Int} (hv:AV a b=true) (hs:AV c d=true) (he:(Ds a b c d m).2.2=0):0<c/\AV (Ds a b c d m).1 (Ds a b c d m).2.1=true/\∃Q:Int,(Ds a b c d m).1*d=Q*c*(Ds a b c d m).2.1/\-(b*c)<Q*(b*c)-a*d/\Q*(b*c)-a*d<b*c:=by
 obtain⟨v,u,o,l⟩:=Bt hv;obtain⟨r,k,t,s⟩:=Bt hs;have hok:=Nm a b c d m he;unfold Ds at he hok ⊢;rw[hv,hs]at he hok ⊢;simp only[Bool.not_true,cond_false]at he hok ⊢
 cases hb:cond (decide (c<=0)) true (!(JX m))
 ·rw[hb]at he hok;rw[cond_false]at he hok ⊢;obtain⟨j,_⟩:=ML hb;have hc:0<c:=by have:=of_decide_eq_false j;omega
  have i:0<b*c:=Int.mul_pos (by omega) hc;obtain⟨g,f⟩:=mG (n:=a*d) (χ:=b*c) (m:=m) i;have q:=Em (x:=a) (y:=d) (X:=1000000000000) (η:=1000000) o l (by omega) k (by decide);generalize JB (a*d) (b*c) m=Q at he hok g f ⊢;have h:Q*(b*c)=Q*c*b:=by ac_rfl
  have e:b*c=c*b:=Int.mul_comm _ _;have p1:Q*c<1000000000000000000+c:=by refine Int.lt_of_mul_lt_mul_right (a:=b) ?_ (by omega);rw[<-h,Int.add_mul,<-e];have:1000000000000000000*1<=1000000000000000000*b:=Int.mul_le_mul_of_nonneg_left (by omega) (by decide);omega
  have p:-(1000000000000000000+c)<Q*c:=by refine Int.lt_of_mul_lt_mul_right (a:=b) ?_ (by omega);rw[<-h,Int.neg_mul,Int.add_mul,<-e];have:1000000000000000000*1<=1000000000000000000*b:=Int.mul_le_mul_of_nonneg_left (by omega) (by decide);omega
  rw[IntWalk.i64_in (Q*c) (by omega)]at he hok ⊢;exact⟨hc,hok,Q,(N0 (by omega) he).1,g,f⟩
 rw[hb]at he
 cases he
theorem oO {b a c d Q:Int} (hr:AV b a=true) (hs:AV c d=true) (e:Int.tmod 100 d=0) (h:b*d=Q*c*a):D1 (Fg (b,a)) 100=(b,a,0):=by
 obtain⟨g,m,j,i⟩:=Bt hr;obtain⟨p,o,r,q⟩:=Bt hs;have f:a.natAbs∣d.natAbs:=by have l:a.natAbs∣b.natAbs*d.natAbs:=⟨(Q*c).natAbs,by rw[<-Int.natAbs_mul,h,Int.natAbs_mul,Nat.mul_comm]⟩;exact(Nat.Coprime.symm (H1 hr)).dvd_of_dvd_mul_left l
 obtain⟨t,ht⟩:a∣100:=Int.dvd_trans (Int.natAbs_dvd_natAbs.1 f) (Int.dvd_of_tmod_eq_zero e);have t0:0<t:=by
  by_cases h0:t<=0
  ·have:=Int.mul_nonpos_of_nonneg_of_nonpos (show 0<=a by omega) h0;omega
  omega
 have k:t<=100:=by have:1*t<=a*t:=Int.mul_le_mul_of_nonneg_right g (by omega);omega
 have n:=Em (x:=b) (y:=t) (X:=1000000000000) (η:=100) j i (by omega) k (by decide);have hc:Fg (b,a)=b*t:=by unfold Fg;dsimp only;rw[IntWalk.i64_in (b*100) (by omega),ht,show b*(a*t)=b*t*a by ac_rfl,Int.mul_tdiv_cancel _ (by omega),IntWalk.i64_in _ (by omega)]
 rw[SL,hc];refine xi (by decide) hr ?_;rw[ht]
 ac_rfl
theorem qN {g f c d Q:Int} (hr:AV g f=true) (hc:0<c) (h:g*d=Q*c*f) (k:(D1 (g*d) (f*c)).2.2=0):(D1 (g*d) (f*c)).2.1=1:=by
 have n:=(Bt hr).1;rw[SL]at k ⊢;have l:0<f*c:=Int.mul_pos (by omega) hc;obtain⟨j,i⟩:=N0 l k;generalize F6 (g*d) (f*c)=q at j i ⊢;obtain⟨a,b,e⟩:=q;dsimp only at j i ⊢;have m:a=Q*b:=by
  refine Int.eq_of_mul_eq_mul_right (a:=f*c) (by omega) ?_;rw[j,h]
  ac_rfl
 have hb:=(Bt i).1;have hg:=H1 i;have:b.natAbs∣Nat.gcd a.natAbs b.natAbs:=Nat.dvd_gcd ⟨Q.natAbs,by rw[m,Int.natAbs_mul,Nat.mul_comm]⟩ (Nat.dvd_refl _);rw[hg]at this;have:=Nat.eq_one_of_dvd_one this;omega
theorem lz {a b g f c d Q:Int} (hv:AV a b=true) (hr:AV g f=true) (hs:AV c d=true) (h:g*d=Q*c*f) (o:-(b*c)<Q*(b*c)-a*d) (n:Q*(b*c)-a*d<b*c) (he:(D1 (g*b-a*f) (f*b)).2.2=0):AV (D1 (g*b-a*f) (f*b)).1 (D1 (g*b-a*f) (f*b)).2.1=true/\(D1 (g*b-a*f) (f*b)).1*d<c*(D1 (g*b-a*f) (f*b)).2.1/\-(c*(D1 (g*b-a*f) (f*b)).2.1)<(D1 (g*b-a*f) (f*b)).1*d:=by
 have u:=(Bt hv).1;have r:=(Bt hr).1;rw[SL]at he ⊢;have p:0<f*b:=Int.mul_pos (by omega) (by omega);obtain⟨j,i⟩:=N0 p he;generalize F6 (g*b-a*f) (f*b)=q at j i ⊢;obtain⟨s,t,e⟩:=q;dsimp only at j i ⊢;have ht:=(Bt i).1;have m:0<f*t:=Int.mul_pos (by omega) (by omega);have l:s*d*(f*b)=(Q*(b*c)-a*d)*(f*t):=by
  rw[show s*d*(f*b)=s*(f*b)*d by ac_rfl,j,Int.sub_mul,Int.sub_mul,Int.sub_mul];congr 1
  ·rw[show g*b*t*d=g*d*(b*t) by ac_rfl,h];ac_rfl
  ac_rfl
 have k:c*t*(f*b)=b*c*(f*t):=by ac_rfl
 refine⟨i,Int.lt_of_mul_lt_mul_right (a:=f*b) ?_ (by omega),Int.lt_of_mul_lt_mul_right (a:=f*b) ?_ (by omega)⟩
 ·rw[l,k];exact Int.mul_lt_mul_of_pos_right n m
 rw[l,Int.neg_mul,k,<-Int.neg_mul];exact Int.mul_lt_mul_of_pos_right o m
theorem ZP {d:EA} {vs:List (Int×Int)} {cs:List AM} {h:List Int} (hH:xB cs h) (z:JI cs) (d0:cs.length<=4294967280) (hI:∀x∈cs,Sr d vs x/\1<=x.1/\x.1<=20) (hF:∀(i:Nat) (x:AM),cs[i]?=some x->Co x.1 x.2.2.1 x.2.2.2.1 x.2.2.2.2.1 x.2.2.2.2.2=true) (q:∀v∈vs,AV v.1 v.2=true) :
  ∀(f i:Nat) (rs:List (Int×Int)) (s:Nat),i<=cs.length->cs.length<f+i->s<=i->(rs.length:Int)=h.getD i default->(∀r∈rs,AV r.1 r.2=true)->(Fk d vs cs f i rs s).1.2.2=0->AV (Fk d vs cs f i rs s).1.1 (Fk d vs cs f i rs s).1.2.1=true/\s<=(Fk d vs cs f i rs s).2/\(Fk d vs cs f i rs s).2<=cs.length/\(i<cs.length->s<(Fk d vs cs f i rs s).2)
 | 0,i,_,_,h1,h2,_,_,_,_=>absurd h2 (by omega)
 | f+1,i,rs,s,hi,hf,hs,hrs,hrv,he=>by
  have ih:=ZP hH z d0 hI hF q f;by_cases hlt:i<cs.length
  ·obtain⟨x,b⟩:∃e,cs[i]?=some e:=⟨_,getElem?_eq_getElem hlt⟩;have p:=hH.step i x b;have a0:=mem_of_getElem? b;obtain⟨e0,j0,h0⟩:=hI x a0;rw[S1 b]at he ⊢;have go:∀(j:Nat) (a:List (Int×Int)),i<j->j<=cs.length->(a.length:Int)=h.getD j default->(∀r∈a,AV r.1 r.2=true)->(Fk d vs cs f j a (s+1)).1.2.2=0->AV (Fk d vs cs f j a (s+1)).1.1 (Fk d vs cs f j a (s+1)).1.2.1=true/\s<=(Fk d vs cs f j a (s+1)).2/\(Fk d vs cs f j a (s+1)).2<=cs.length/\(i<cs.length->s<(Fk d vs cs f j a (s+1)).2):=λj a i0 o hr hv he=>by obtain⟨k1,k2,k3,_⟩:=ih j a (s+1) o (by omega) (by omega) hr hv he;exact⟨k1,by omega,k3,λ_=>by omega⟩
   have c:∀n,∀r∈rs.drop n,AV r.1 r.2=true:=λn r hr=>hrv r (mem_of_mem_drop hr)
   cases c16:x.1==16
   ·rw[c16]at he;rw[cond_false]at he ⊢
    cases c17:x.1==17
    ·rw[c17]at he;rw[cond_false]at he ⊢;have l0:x.1≠16:=by simpa using c16
     have k0:x.1≠17:=by simpa using c17
     have g:BZ i x=[i+1]:=by unfold BZ Do;rw[c16,c17,IntWalk.i64_in ((i:Int)+1) (by omega)];rfl
     have w:=p.next (i+1) (by rw[g];simp)
     have k:=p.takes;have g0:=(JL x.1).1;have t:(Af x.1).2=1:=by
      obtain h | h | h | h | h | h | h | h | h | h | h | h | h | h | h | h | h | h:x.1=1\/x.1=2\/x.1=3\/x.1=4\/x.1=5\/x.1=6\/x.1=7\/x.1=8\/x.1=9\/x.1=10\/x.1=11\/x.1=12\/x.1=13\/x.1=14\/x.1=15\/x.1=18\/x.1=19\/x.1=20:=by omega
      all_goals (rw[h];rfl)
     have hok:=ACb e0 (hF i x b) q hrv (by omega);generalize Jt d vs x rs=r at he hok ⊢
     cases cr:!(r.2.2==0)
     ·rw[cr]at he;rw[cond_false]at he ⊢;have b0:r.2.2=0:=by simpa using cr
      refine go (i+1) _ (by omega) (by omega) ?_ ?_ he
      ·rw[w,t,length_cons,length_drop];omega
      intro y hy;rcases mem_cons.1 hy with rfl | hy
      ·exact hok b0
      exact c _ y hy
     rw[cr]at he;exact absurd he (bn cr)
    rw[c17]at he;rw[cond_true]at he ⊢;have ho:x.1=17:=by simpa using c17
    obtain⟨j,o⟩:∃j:Nat,x.2.1=j:=⟨x.2.1.toNat,by have:=z i x b (.inr ho);omega⟩;have c0:=z i x b (.inr ho);have g:BZ i x=[i+1,j]:=by unfold BZ Do;rw[ho,o,IntWalk.i64_in ((i:Int)+1) (by omega)];rfl
    have m:=p.next (i+1) (by rw[g];simp)
    have l:=p.next j (by rw[g];simp)
    have k:=p.takes;rw[ho]at m l k;replace m:h.getD (i+1) default=h.getD i default-1+0:=m;replace l:h.getD j default=h.getD i default-1+0:=l;replace k:1<=h.getD i default:=k;rw[o]at he ⊢
    cases cb:(rs.getD 0 default).1==0
    ·rw[cb]at he;exact go (i+1) _ (by omega) (by omega) (by rw[m,length_drop];omega) (c 1) he
    rw[cb]at he;exact go j _ (by omega) (by omega) (by rw[l,length_drop];omega) (c 1) he
   rw[c16]at he;rw[cond_true]at he ⊢;have ho:x.1=16:=by simpa using c16
   obtain⟨j,o⟩:∃j:Nat,x.2.1=j:=⟨x.2.1.toNat,by have:=z i x b (.inl ho);omega⟩;have c0:=z i x b (.inl ho);have g:BZ i x=[j]:=by unfold BZ Do;rw[ho,o];rfl
   have w:=p.next j (by rw[g];simp)
   rw[ho]at w;replace w:h.getD j default=h.getD i default-0+0:=w;rw[o]at he ⊢;exact go j rs (by omega) (by omega) (by omega) hrv he
  have u:i=cs.length:=by omega
  rw[W5 (by rw[u];exact getElem?_eq_none (Nat.le_refl _))];rw[u,hH.stop]at hrs;exact⟨hrv _ (DR (by omega)),Nat.le_refl _,by show s<=_;omega,λh=>absurd h hlt⟩
theorem qu {d:EA} {k:Nat} {e:DY} {vs:List (Int×Int)} (h:So d.ins.length d.scs.length d.pas.length d.rts k e) (he:d.rts[k]?=some e) (n:k<=vs.length) (c:∀v∈vs,AV v.1 v.2=true) (f:(Bh d vs e.2.2.2.2.2).1.2.2=0):AV (Bh d vs e.2.2.2.2.2).1.1 (Bh d vs e.2.2.2.2.2).1.2.1=true/\1<=(Bh d vs e.2.2.2.2.2).2/\(Bh d vs e.2.2.2.2.2).2<=e.2.2.2.2.2.length:=by
 obtain⟨o,⟨hs,b⟩,p⟩:=h.run he n;have a:0<e.2.2.2.2.2.length:=by apply Nat.pos_of_ne_zero;intro f;have g:=b.stop;rw[f,b.start]at g;exact absurd g (by decide)
 obtain⟨m,_,l,j⟩:=ZP b o (by have:=h.len;omega) p (λi x hx=>(h.fields i x hx).1) c (e.2.2.2.2.2.length+1) 0 [] 0 (Nat.zero_le _) (by omega) (Nat.le_refl _) b.start.symm (λr hr=>by cases hr) f;exact⟨m,j a,l⟩
def CC (os:List F2):List (Int×Int):=os.map (·.2.1)
theorem ZV {d:EA} {out:List F2}:∀(n i:Nat) (os:List F2),n+i=d.rts.length->os.length=i->Gj d (d.rts.drop i) (CC os) os=(out,0)->out.length=d.rts.length/\out.take i=os/\∀(j:Nat) (e:DY),i<=j->d.rts[j]?=some e->(Bh d (CC (out.take j)) e.2.2.2.2.2).1.2.2=0/\∃o,out[j]?=some o/\G4 e ((Bh d (CC (out.take j)) e.2.2.2.2.2).1.1,(Bh d (CC (out.take j)) e.2.2.2.2.2).1.2.1)=(o,0)
 | 0,i,os,hn,hl,h=>by rw[drop_eq_nil_of_le (by omega),Gj]at h;obtain⟨rfl,_⟩:=Prod.mk.inj h;exact⟨by omega,take_of_length_le (by omega),λj e k he=>absurd (List.getElem?_eq_some_iff.1 he).1 (by omega)⟩
 | n+1,i,os,hn,hl,h=>by
  obtain⟨e,he⟩:∃e,d.rts[i]?=some e:=⟨_,getElem?_eq_getElem (by omega)⟩;rw[RK he]at h
  cases c1:!((Bh d (CC os) e.2.2.2.2.2).1.2.2==0)
  ·rw[c1,cond_false]at h
   cases c2:!((G4 e ((Bh d (CC os) e.2.2.2.2.2).1.1,(Bh d (CC os) e.2.2.2.2.2).1.2.1)).2==0)
   ·rw[c2,cond_false]at h;have l:Gj d (d.rts.drop (i+1)) (CC (os++[(G4 e ((Bh d (CC os) e.2.2.2.2.2).1.1,(Bh d (CC os) e.2.2.2.2.2).1.2.1)).1])) (os++[(G4 e ((Bh d (CC os) e.2.2.2.2.2).1.1,(Bh d (CC os) e.2.2.2.2.2).1.2.1)).1])=(out,0):=by rw[show CC (os++[(G4 e ((Bh d (CC os) e.2.2.2.2.2).1.1,(Bh d (CC os) e.2.2.2.2.2).1.2.1)).1])=CC os++[(G4 e ((Bh d (CC os) e.2.2.2.2.2).1.1,(Bh d (CC os) e.2.2.2.2.2).1.2.1)).1.2.1] by unfold CC;simp];exact h
    obtain⟨g,b,c⟩:=ZV n (i+1) _ (by omega) (by rw[length_append,hl];rfl) l;have a:out.take i=os:=by have:=congrArg (List.take i) b;rw[take_take,Nat.min_eq_left (by omega),take_left' hl]at this;exact this
    refine⟨g,a,λj f k hf=>?_⟩;by_cases hij:j=i
    ·subst hij;obtain rfl:=Option.some.inj (he.symm.trans hf);rw[a];refine⟨by simpa using c1,_,?_,Prod.ext rfl (by simpa using c2)⟩;have:=congrArg (·[j]?) b;rw[getElem?_take_of_lt (by omega),getElem?_append_right (by omega),hl,Nat.sub_self]at this;exact this
    exact c j f (by omega) hf
   rw[c2]at h;exact absurd (Prod.mk.inj h).2 (bn c2)
  rw[c1]at h;exact absurd (Prod.mk.inj h).2 (bn c1)
structure xA (d:EA) (out:List F2) (j:Nat) (e:DY) (o:F2):Prop where
 vals:∀v∈CC (out.take j),AV v.1 v.2=true
 err:(Bh d (CC (out.take j)) e.2.2.2.2.2).1.2.2=0
 low:1<=(Bh d (CC (out.take j)) e.2.2.2.2.2).2
 high:(Bh d (CC (out.take j)) e.2.2.2.2.2).2<=e.2.2.2.2.2.length
 plain:e.2.1=false->o.2.2.2=0/\o.2.1=((Bh d (CC (out.take j)) e.2.2.2.2.2).1.1,(Bh d (CC (out.take j)) e.2.2.2.2.2).1.2.1)
 pay:e.2.1=true->AV (Bh d (CC (out.take j)) e.2.2.2.2.2).1.1 (Bh d (CC (out.take j)) e.2.2.2.2.2).1.2.1=true/\AV o.2.1.1 o.2.1.2=true/\AV e.2.2.2.1 e.2.2.2.2.1=true/\0<e.2.2.2.1/\(-1000000000000<=o.2.2.2/\o.2.2.2<=1000000000000)/\D1 o.2.2.2 100=(o.2.1.1,o.2.1.2,0)/\
  ((D1 (o.2.1.1*e.2.2.2.2.1) (o.2.1.2*e.2.2.2.1)).2.2=0->(D1 (o.2.1.1*e.2.2.2.2.1) (o.2.1.2*e.2.2.2.1)).2.1=1)/\
  ∀s,D1 (o.2.1.1*(Bh d (CC (out.take j)) e.2.2.2.2.2).1.2.1-(Bh d (CC (out.take j)) e.2.2.2.2.2).1.1*o.2.1.2) (o.2.1.2*(Bh d (CC (out.take j)) e.2.2.2.2.2).1.2.1)=s->s.2.2=0->AV s.1 s.2.1=true/\s.1*e.2.2.2.2.1<e.2.2.2.1*s.2.1/\-(e.2.2.2.1*s.2.1)<s.1*e.2.2.2.2.1
theorem Ya {e:DY} (h:Dw e.2.1 e.2.2.1 e.2.2.2.1 e.2.2.2.2.1=true) (b:e.2.1=true):AV e.2.2.2.1 e.2.2.2.2.1=true/\Int.tmod 100 e.2.2.2.2.1=0:=by unfold Dw at h;rw[b]at h;simp only[Bool.not_true,cond_false]at h;obtain⟨c,h2⟩:=Hb h;obtain⟨_,a⟩:=Hb c;unfold EU at a;exact⟨(Hb a).1,by simpa using h2⟩
theorem ZW {d:EA} {out:List F2} {j:Nat} {e:DY} {o:F2} (h:So d.ins.length d.scs.length d.pas.length d.rts j e) (he:d.rts[j]?=some e) (z:j<=out.length) (hv:∀v∈CC (out.take j),AV v.1 v.2=true) (k:(Bh d (CC (out.take j)) e.2.2.2.2.2).1.2.2=0) (a:G4 e ((Bh d (CC (out.take j)) e.2.2.2.2.2).1.1,(Bh d (CC (out.take j)) e.2.2.2.2.2).1.2.1)=(o,0)):xA d out j e o/\AV o.2.1.1 o.2.1.2=true:=by
 have hl:(CC (out.take j)).length=j:=by unfold CC;rw[length_map,length_take];omega
 obtain⟨g,p,n⟩:=qu h he (by omega) hv k
 cases hp:e.2.1
 ·unfold G4 at a;rw[hp]at a;obtain⟨rfl,_⟩:=Prod.mk.inj a;exact⟨⟨hv,k,p,n,λ_=>⟨rfl,rfl⟩,(λb=>by rw[hp]at b;cases b)⟩,g⟩
 obtain⟨f,w⟩:=Ya h.rnd hp;unfold G4 at a;rw[hp]at a;simp only[cond_true]at a
 cases c1:!((Ds (Bh d (CC (out.take j)) e.2.2.2.2.2).1.1 (Bh d (CC (out.take j)) e.2.2.2.2.2).1.2.1 e.2.2.2.1 e.2.2.2.2.1 e.2.2.1).2.2==0)
 ·obtain⟨q,c,Q,l,y,x⟩:=l9 (m:=e.2.2.1) g f (by simpa using c1);rw[c1,cond_false]at a;generalize Ds (Bh d (CC (out.take j)) e.2.2.2.2.2).1.1 (Bh d (CC (out.take j)) e.2.2.2.2.2).1.2.1 e.2.2.2.1 e.2.2.2.2.1 e.2.2.1=r at *
  cases c2:cond (decide (Fg (r.1,r.2.1) < -1000000000000)) true (decide (1000000000000<Fg (r.1,r.2.1)))
  ·rw[c2,cond_false]at a;obtain⟨rfl,_⟩:=Prod.mk.inj a;obtain⟨u,t⟩:=ML c2;have u:=of_decide_eq_false u;have t:=of_decide_eq_false t;refine⟨⟨hv,k,p,n,(λb=>by rw[hp]at b;cases b),λ_=>⟨g,c,f,q,⟨by show _<=Fg _;omega,by show Fg _<=_;omega⟩,oO c f w l,qN c q l,λs hs i=>?_⟩⟩,c⟩;subst hs;exact lz g c f l y x i
  rw[c2]at a;exact absurd (Prod.mk.inj a).2 (by decide)
 rw[c1]at a;exact absurd (Prod.mk.inj a).2 (bn c1)
theorem xg {d:EA} {out:List F2} (h:ES d=(out,0)):Cc d.ins d.scs d.pas d.rts=true/\out.length=d.rts.length/\∀(j:Nat) (e:DY),d.rts[j]?=some e->∃o,out[j]?=some o/\xA d out j e o:=by
 unfold ES at h
 cases cV:!(Cc d.ins d.scs d.pas d.rts)
 ·rw[cV,cond_false]at h;have i:=LC cV;obtain⟨_,_,b⟩:=Rr i;obtain⟨k,_,g⟩:=ZV (d:=d) (out:=out) d.rts.length 0 [] (by omega) rfl (by rw[drop_zero];exact h);have key:∀(n:Nat),n<=out.length->∀v∈CC (out.take n),AV v.1 v.2=true:=by
   intro n
   induction n with
   | zero=>intro _ v hv;cases hv
   | succ n ih=>
    intro hn v hv;obtain⟨e,he⟩:∃e,d.rts[n]?=some e:=⟨_,getElem?_eq_getElem (by omega)⟩;obtain⟨f,o,ho,c⟩:=g n e (Nat.zero_le _) he;have a:=ih (by omega);have h2:=(ZW (b n e he) he (by omega) a f c).2;unfold CC at hv;rw[take_add_one,ho]at hv;simp only[Option.toList_some,map_append,mem_append,map_cons,map_nil,mem_singleton]at hv;rcases hv with hv | rfl
    ·exact a v hv
    exact h2
  refine⟨i,k,λj e he=>?_⟩;have l:j<d.rts.length:=(List.getElem?_eq_some_iff.1 he).1;obtain⟨f,o,ho,c⟩:=g j e (Nat.zero_le _) he;exact⟨o,ho,(ZW (b j e he) he (by omega) (key j (by omega)) f c).1⟩
 rw[cV]at h;exact absurd (Prod.mk.inj h).2 (by decide)
def NJ (t:Ty):JQ:=(t.1,t.2.1,t.2.2.1,t.2.2.2,0)
structure Tab (n:Int) (ns ss ps:List Df):Prop where
 nam:∀t∈Ek,∀nm∈LG t n,CN ns nm=NJ t
 scw:CN ss [119]=NJ CH
 scs:CN ss [115]=NJ BT
 pag:CN ps [103,114,111,115,115]=NJ Cb
 pat:CN ps [116,105,109,101]=NJ Dn
theorem Uv {op:Int} {t c b:Ty} (h:Nd op t c b) (a:t∈Ek):c∈Ek/\b∈Ek:=by
 have e:BT∈Ek/\Cb∈Ek/\Dn∈Ek/\CH∈Ek/\DB∈Ek:=by decide
 obtain⟨f,d,a3,a4,a5⟩:=e;unfold Nd at h;rcases h with⟨_,_,rfl,h⟩ | ⟨_,_,rfl,rfl⟩ | ⟨_,_,rfl,rfl⟩ | ⟨_,_,rfl,rfl⟩ | ⟨_,_,rfl,rfl⟩ | ⟨_,_,rfl,rfl⟩ | ⟨_,_,rfl,h⟩ | ⟨_,_,rfl,rfl⟩
 ·exact⟨Nc h,Nc h⟩
 ·exact⟨a5,a5⟩
 ·exact⟨a,a⟩
 ·exact⟨a,f⟩
 ·exact⟨a3,a4⟩
 ·exact⟨d,a3⟩
 ·exact⟨Nc h,Nc h⟩
 exact⟨d,a4⟩
theorem qd {t:Ty} (h:t∈Ek):t=BT\/t=Cb\/t=Dn\/t=CH\/t=DB:=by simpa[Ek]using h
theorem ACe {t:Ty} (h:t∈L7):t=BT\/t=Cb\/t=Dn\/t=CH:=by simpa[L7]using h
theorem SK {t:Ty} (h:t∈Ek) (a:t.1=false):t=BT\/t=Cb\/t=Dn\/t=CH:=by
 rcases qd h with h | h | h | h | h
 ·exact .inl h
 ·exact .inr (.inl h)
 ·exact .inr (.inr (.inl h))
 ·exact .inr (.inr (.inr h))
 subst h;cases a
theorem ACY {ns ss e:List Df} {op:Int} {t c b:Ty} (x y:Ex) (h:Nd op t c b) (d:t∈Ek):DN ns ss e (.mk op 0 0 0 0 0 [] 0 0 [x,y]) c b (false,0,0,0)=NJ t:=by
 unfold Nd at h;rcases h with⟨ho,rfl,rfl,h⟩ | ⟨ho,rfl,rfl,rfl⟩ | ⟨ho,a,rfl,rfl⟩ | ⟨ho,a,rfl,rfl⟩ | ⟨rfl,rfl,rfl,rfl⟩ | ⟨rfl,rfl,rfl,rfl⟩ | ⟨rfl,rfl,rfl,h⟩ | ⟨rfl,rfl,rfl,rfl⟩
 ·rcases ho with rfl | rfl | rfl<;>rcases ACe h with rfl | rfl | rfl | rfl<;>kernel_rfl
 ·rcases ho with rfl | rfl | rfl<;>kernel_rfl
 ·rcases ho with rfl | rfl | rfl | rfl<;>rcases SK d a with rfl | rfl | rfl | rfl<;>kernel_rfl
 ·rcases ho with rfl | rfl<;>rcases SK d a with rfl | rfl | rfl | rfl<;>kernel_rfl
 ·kernel_rfl
 ·kernel_rfl
 ·rcases ACe h with rfl | rfl | rfl | rfl<;>kernel_rfl
 kernel_rfl
theorem iU {n:Int} {ns ss a:List Df} (T:Tab n ns ss a) {h:Nat} {t:Ty} {x:Ex} (hx:DL n h t x):t∈Ek->ER ns ss a x=NJ t:=by
 have a5:DB∈Ek/\BT∈Ek:=by decide
 induction hx with
 | tru h c hc=>intro _;kernel_rfl
 | name h t nm hm=>intro b;exact T.nam t b nm hm
 | past h t nm op c ht hop h1 h3=>
  intro _;rcases hop with rfl | rfl<;>rcases ht with⟨rfl,rfl⟩ | ⟨rfl,rfl⟩
  ·exact T.pag
  ·exact T.pat
  ·exact T.pag
  exact T.pat
 | num h t q ht b hq=>intro _;rcases SK b ht with rfl | rfl | rfl | rfl<;>kernel_rfl
 | not h x hx ih=>
  intro _;show Jn (ER ns ss a x) ns ss a _=_;rw[ih a5.1]
  kernel_rfl
 | neg h t x ht hx ih=>
  intro b;show Jn (ER ns ss a x) ns ss a _=_;rw[ih b];rcases SK b ht with rfl | rfl | rfl | rfl<;>kernel_rfl
 | round h t x q m ht hq m0 m6 hx ih=>
  intro b;show Jn (ER ns ss a x) ns ss a _=_;rw[ih b];rcases SK b ht with rfl | rfl | rfl | rfl<;>kernel_rfl
 | scale h t nm x ht hx ih=>
  intro _;show Jn (ER ns ss a x) ns ss a (.mk 4 0 0 0 0 0 nm 0 0 [x])=_;rw[ih a5.2];show cond ((CN ss nm).2.2.2.2==0) (Ae (CN ss nm).1 (CN ss nm).2.1 (CN ss nm).2.2.1 (CN ss nm).2.2.2.1 (Dj false 0 0 0 0 0 0)) (Ae (CN ss nm).1 (CN ss nm).2.1 (CN ss nm).2.2.1 (CN ss nm).2.2.2.1 (CN ss nm).2.2.2.2)=_;rcases ht with⟨rfl,rfl⟩ | ⟨rfl,rfl⟩
  ·rw[T.scw];rfl
  rw[T.scs];rfl
 | two h op t t1 t2 x y ht hx hy ih1 ih2=>
  intro b;obtain⟨e,d⟩:=Uv ht b;show L6 (ER ns ss a x) (ER ns ss a y) ns ss a (.mk op 0 0 0 0 0 [] 0 0 [x,y])=_;rw[ih1 e,ih2 d];exact ACY x y ht b
 | ite h t x y z hx hy hz ih1 ih2 ih3=>
  intro b;show Kq (ER ns ss a x) (ER ns ss a y) (ER ns ss a z) ns ss a _=_;rw[ih1 a5.1,ih2 b,ih3 b];rcases qd b with rfl | rfl | rfl | rfl | rfl<;>kernel_rfl
theorem HQ {op num den mu hu du:Int} {nm:List UInt8} {cnt md:Int} {a:List Ex} {H:Int} (e:1<=H) (d:(a.length:Int)=Cz op) (hf:CS op num den mu hu du nm cnt md=true) (b:∀k∈a,Ft k (H-1)=true):Ft (.mk op num den mu hu du nm cnt md a) H=true:=by
 have hs:∀l:List Ex,(∀k∈l,Ft k (H-1)=true)->Gd l (H-1)=true:=by
  intro l
  induction l with
  | nil=>intro _;rfl
  | cons k l ih=>
   intro h;rw[Gd,h k (by simp)];exact ih λq c=>h q (by simp[c])
 rw[Ft,decide_eq_false (by omega:¬H<1),d,hf,hs a b,beq_self_eq_true];rfl
theorem xO {n:Int} {t:Ty} {nm:List UInt8} (h:nm∈LG t n):CS 3 0 0 0 0 0 nm 0 0=true:=by
 have j:∀a b c d e f g k:Bool,(cond a ([102]::cond e [[114,51]] []) (cond b (cond f [[114,50]] []++cond g [[97]] []) (cond c [[104]] (cond d (cond k [[114,49]] []) ([103]::cond g [[114,52]] [])))):List (List UInt8)).all (λq=>[[102],[114,51],[114,50],[97],[104],[114,49],[103],[114,52]].contains q)=true:=by decide
 have h2:=all_eq_true.1 (j _ _ _ _ _ _ _ _) nm h;have i:([[102],[114,51],[114,50],[97],[104],[114,49],[103],[114,52]]:List (List UInt8)).all (λq=>CS 3 0 0 0 0 0 q 0 0)=true:=by kernel_rfl
 exact all_eq_true.1 i nm (contains_iff_mem.1 h2)
theorem yJ:L7.all (λt=>G5.all λq=>CS 1 q.1 q.2 t.2.1 t.2.2.1 t.2.2.2 [] 0 0)=true:=by kernel_rfl
theorem yI:L7.all (λt=>PX.all λq=>[0,1,2,3,4,5,6].all λm=>CS 19 q.1 q.2 t.2.1 t.2.2.1 t.2.2.2 [] 0 m)=true:=by kernel_rfl
theorem yH:[5,6,7,8,9,10,11,12,13,14,15].all (λop=>CS op 0 0 0 0 0 [] 0 0)=true:=by kernel_rfl
theorem ACg:[5,6,7,8,9,10,11,12,13,14,15].all (λop=>Cz op==2)=true:=by kernel_rfl
theorem iW {t:Ty} (h:t∈Ek) (a:t.1=false):t∈L7:=by rcases SK h a with rfl | rfl | rfl | rfl<;>decide
theorem PT {n:Int} {h:Nat} {t:Ty} {x:Ex} (hx:DL n h t x):∀(H:Int),(h:Int)<=H->t∈Ek->Ft x H=true:=by
 have a5:DB∈Ek/\BT∈Ek:=by decide
 have e:∀(H:Int),∀k∈([]:List Ex),Ft k (H-1)=true:=λH k a=>by cases a
 have one:∀(H:Int) (x:Ex),Ft x (H-1)=true->∀k∈[x],Ft k (H-1)=true:=λH x hx k a=>by rw[mem_singleton.1 a];exact hx
 induction hx with
 | tru h c hc=>intro H d _;exact HQ (by omega) rfl (by rcases hc with rfl | rfl<;>kernel_rfl) (e H)
 | name h t nm hm=>intro H d _;exact HQ (by omega) rfl (xO hm) (e H)
 | past h t nm op c ht hop h1 h3=>
  intro H d _;have hc:c=1\/c=2\/c=3:=by omega
  refine HQ (by omega) ?_ ?_ (e H)
  ·rcases hop with rfl | rfl<;>rfl
  rcases hop with rfl | rfl<;>rcases ht with⟨_,rfl⟩ | ⟨_,rfl⟩<;>rcases hc with rfl | rfl | rfl<;>kernel_rfl
 | num h t q ht b hq=>
  intro H d _;exact HQ (by omega) rfl (all_eq_true.1 (all_eq_true.1 yJ t (iW b ht)) q hq) (e H)
 | not h x hx ih=>intro H d _;exact HQ (by omega) rfl (by kernel_rfl) (one H x (ih _ (by omega) a5.1))
 | neg h t x ht hx ih=>intro H d b;exact HQ (by omega) rfl (by kernel_rfl) (one H x (ih _ (by omega) b))
 | round h t x q m ht hq m0 m6 hx ih=>
  intro H d b;have hm:m∈([0,1,2,3,4,5,6]:List Int):=by
   have:m=0\/m=1\/m=2\/m=3\/m=4\/m=5\/m=6:=by omega
   simpa using this
  exact HQ (by omega) rfl (all_eq_true.1 (all_eq_true.1 (all_eq_true.1 yI t (iW b ht)) q hq) m hm) (one H x (ih _ (by omega) b))
 | scale h t nm x ht hx ih=>intro H d _;exact HQ (by omega) rfl (by rcases ht with⟨_,rfl⟩ | ⟨_,rfl⟩<;>kernel_rfl) (one H x (ih _ (by omega) a5.2))
 | two h op t t1 t2 x y ht hx hy ih1 ih2=>
  intro H d b;obtain⟨g,f⟩:=Uv ht b;have ho:op∈([5,6,7,8,9,10,11,12,13,14,15]:List Int):=by
   have:op=5\/op=6\/op=7\/op=8\/op=9\/op=10\/op=11\/op=12\/op=13\/op=14\/op=15:=by unfold Nd at ht;omega
   simpa using this
  refine HQ (by omega) ?_ (all_eq_true.1 yH op ho) λk a=>?_
  ·exact(eq_of_beq (all_eq_true.1 ACg op ho)).symm
  rcases mem_cons.1 a with rfl | a
  ·exact ih1 _ (by omega) g
  rw[mem_singleton.1 a];exact ih2 _ (by omega) f
 | ite h t x y z hx hy hz ih1 ih2 ih3=>
  intro H d b;refine HQ (by omega) rfl (by kernel_rfl) λk a=>?_;rcases mem_cons.1 a with rfl | a
  ·exact ih1 _ (by omega) a5.1
  rcases mem_cons.1 a with rfl | a
  ·exact ih2 _ (by omega) b
  rw[mem_singleton.1 a];exact ih3 _ (by omega) b
def I1 (d:Df):Ty:=cond (d.kind==4) Cb (d.tb,d.tm,d.th,d.td)
def nmL:List (List UInt8×Ty):=[([104],Dn),([103],BT),([102],DB),([114,49],CH),([114,50],Cb),([114,51],DB),([114,52],BT),([97],Cb),([98],Cb),([110,101,119],BT)]
structure NI (d:Df):Prop where
 kind:d.kind=1\/d.kind=2\/d.kind=3\/d.kind=4\/d.kind=5
 nam:d.kind=1\/d.kind=3\/d.kind=4->Bf nmL d.name=some (I1 d)
 sca:d.kind=2->(d.name=[119]/\I1 d=CH)\/(d.name=[115]/\I1 d=BT)
 pas:d.kind=5->(d.name=[103,114,111,115,115]/\I1 d=Cb)\/(d.name=[116,105,109,101]/\I1 d=Dn)
 bod:d.kind=3\/d.kind=4->∃n h,DL n h (I1 d) d.body/\h<=3/\I1 d∈Ek
theorem AIJ {d:Df} {P:Prop} (h:d.kind≠1/\d.kind≠3/\d.kind≠4):d.kind=1\/d.kind=3\/d.kind=4->P:=λh2=>by
 rcases h2 with h2 | h2 | h2
 ·exact absurd h2 h.1
 ·exact absurd h2 h.2.1
 exact absurd h2 h.2.2
theorem ZE:∀i:Nat,Gl.getD i BT∈Ek
 | 0 | 1 | 2 | 3=>by decide
 | _+4=>(by decide:BT∈Ek)
theorem iV (i:Nat) (hi:i<4) (frm:Int) (x:Ex) (n:Int) (hx:DL n 3 (Gl.getD i BT) x):NI (GG i frm x):=by
 have e:I1 (GG i frm x)=Gl.getD i BT:=rfl;refine⟨.inr (.inr (.inl rfl)),λ_=>?_,λh=>absurd (show(3:Int)=2 from h) (by decide),λh=>absurd (show(3:Int)=5 from h) (by decide),λ_=>⟨n,3,by rw[e];exact hx,Nat.le_refl _,by rw[e];exact ZE i⟩⟩;rw[e]
 match i,hi with
 | 0,_ | 1,_ | 2,_ | 3,_=>rfl
theorem ZF {d:Df} (h:IZ 3 false d):NI d:=by
 cases h with
 | ins d hd=>
  simp only[Fa,mem_cons,not_mem_nil,or_false]at hd;rcases hd with rfl | rfl | rfl | rfl | rfl
  ·exact⟨.inl rfl,λ_=>rfl,λh=>absurd h (by decide),λh=>absurd h (by decide),λh=>absurd h (by decide)⟩
  ·exact⟨.inl rfl,λ_=>rfl,λh=>absurd h (by decide),λh=>absurd h (by decide),λh=>absurd h (by decide)⟩
  ·exact⟨.inl rfl,λ_=>rfl,λh=>absurd h (by decide),λh=>absurd h (by decide),λh=>absurd h (by decide)⟩
  ·exact⟨.inr (.inr (.inr (.inr rfl))),λh=>absurd h (by decide),λh=>absurd h (by decide),λ_=>.inl ⟨rfl,rfl⟩,λh=>absurd h (by decide)⟩
  exact⟨.inr (.inr (.inr (.inr rfl))),λh=>absurd h (by decide),λh=>absurd h (by decide),λ_=>.inr ⟨rfl,rfl⟩,λh=>absurd h (by decide)⟩
 | sc nm t frm es h hf he=>
  have k:(Ci nm t frm es).kind=2:=rfl;refine⟨.inr (.inl rfl),AIJ (by rw[k];decide),λ_=>?_,λh=>absurd (k.symm.trans h) (by decide),λh=>?_⟩
  ·rcases h with⟨rfl,rfl⟩ | ⟨rfl,rfl⟩
   ·exact .inl ⟨rfl,rfl⟩
   exact .inr ⟨rfl,rfl⟩
  rw[k]at h;rcases h with h | h<;>exact absurd h (by decide)
 | rule i frm x n hi hf hn hx=>exact iV i hi frm x n hx
 | pay i x mode q hi h0 h6 hq hx=>
  have e:I1 (Ip i x mode q)=Cb:=rfl;refine⟨.inr (.inr (.inr (.inl rfl))),λ_=>?_,λh=>absurd (show(4:Int)=2 from h) (by decide),λh=>absurd (show(4:Int)=5 from h) (by decide),λ_=>⟨_,3,by rw[e];exact hx,Nat.le_refl _,by rw[e];decide⟩⟩;rw[e]
  match i,hi with
  | 0,_ | 1,_=>rfl
def Hj (d:Df):Bool:=d.kind==1||(d.kind==3||d.kind==4)
theorem GO:∀(l a b c:List Df),CR l a b c=(a++l.filter Hj,b++l.filter (·.kind==2),c++l.filter (·.kind==5))
 | [],a,b,c=>by rw[CR];simp
 | e::l,a,b,c=>by
  have f:∀k:Int,(e.kind==k)=true->e.kind=k:=λk h=>eq_of_beq h;rw[CR]
  cases h1:e.kind==1
  ·simp only[cond_false]
   cases h3:e.kind==3
   ·simp only[cond_false]
    cases h4:e.kind==4
    ·simp only[cond_false]
     cases h2:e.kind==2
     ·simp only[cond_false]
      cases d:e.kind==5
      ·simp only[cond_false];rw[GO];simp[Hj,h1,h2,h3,h4,d,filter_cons]
      simp only[cond_true];rw[GO];simp[Hj,h1,h2,h3,h4,d,filter_cons]
     simp only[cond_true];rw[GO];have d:(e.kind==5)=false:=by rw[f 2 h2];rfl
     simp[Hj,h1,h2,h3,h4,d,filter_cons]
    simp only[cond_true];rw[GO];have h2:(e.kind==2)=false:=by rw[f 4 h4];rfl
    have d:(e.kind==5)=false:=by rw[f 4 h4];rfl
    simp[Hj,h2,h4,d,filter_cons]
   simp only[cond_true];rw[GO];have h2:(e.kind==2)=false:=by rw[f 3 h3];rfl
   have d:(e.kind==5)=false:=by rw[f 3 h3];rfl
   simp[Hj,h2,h3,d,filter_cons]
  simp only[cond_true];rw[GO];have h2:(e.kind==2)=false:=by rw[f 1 h1];rfl
  have d:(e.kind==5)=false:=by rw[f 1 h1];rfl
  simp[Hj,h1,h2,d,filter_cons]
theorem M7 {nm:List UInt8} {t:Ty}:∀(l:List Df) (a:Int),(∃d∈l,d.name=nm)->(∀d∈l,d.name=nm->I1 d=t)->F0 nm l a=NJ t
 | [],_,⟨d,hd,_⟩,_=>by cases hd
 | e::l,a,hex,hall=>by
  rw[F0]
  cases hc:decide (e.name=nm)
  ·have b:e.name≠nm:=of_decide_eq_false hc;obtain⟨d,hd,hn⟩:=hex;refine M7 l a ⟨d,?_,hn⟩ λq c=>hall q (by simp[c]);rcases mem_cons.1 hd with rfl | hd
   ·exact absurd hn b
   exact hd
  have:=hall e (by simp) (of_decide_eq_true hc);unfold I1 at this;show cond (e.kind==4) _ _=_
  cases h4:e.kind==4
  ·rw[h4]at this;rw[<-this];rfl
  rw[h4]at this;rw[<-this];rfl
theorem Zb {d:Df} (h:Hj d=true):d.kind=1\/d.kind=3\/d.kind=4:=by unfold Hj at h;simpa using h
theorem yL {ds:List Df} (hf:YY ds) {bs:List Df} (hb:∀d∈bs,NI d) (b:∀d∈ds,d∈bs) (n:Int):Tab n (AZ bs).1 (AZ bs).2.1 (AZ bs).2.2:=by
 have e:AZ bs=(bs.filter Hj,bs.filter (·.kind==2),bs.filter (·.kind==5)):=by unfold AZ;rw[GO];simp
 rw[e];have fn:∀(nm:List UInt8) (t:Ty),(∃d∈ds,d.name=nm/\Hj d=true)->Bf nmL nm=some t->CN (bs.filter Hj) nm=NJ t:=λnm t ⟨d,hd,hn,a⟩ hl=>by refine M7 _ _ ⟨d,mem_filter.2 ⟨b d hd,a⟩,hn⟩ λq i c=>?_;obtain⟨g,f⟩:=mem_filter.1 i;have:=(hb q g).nam (Zb f);rw[c,hl]at this;exact(Option.some.inj this).symm
 have ins:∀d∈Fa,Hj d=true->∃q∈ds,q.name=d.name/\Hj q=true:=λd hd a=>⟨d,hf.ins d hd,rfl,a⟩;have rul:∀k,k<4->∃q∈ds,q.name=PE.getD k []/\Hj q=true:=λk a=>by obtain⟨x,hx⟩:=hf.rul k a;exact⟨_,hx,rfl,rfl⟩
 have o:=fn [104] Dn (ins _ (by simp[Fa]:(⟨1,[104],false,0,1,0,0,[],BU,0,0,0⟩:Df)∈Fa) rfl) rfl;have p:=fn [103] BT (ins _ (by simp[Fa]:(⟨1,[103],false,0,0,0,0,[],BU,0,0,0⟩:Df)∈Fa) rfl) rfl;have r:=fn [102] DB (ins _ (by simp[Fa]:(⟨1,[102],true,0,0,0,0,[],BU,0,0,0⟩:Df)∈Fa) rfl) rfl;have y:=fn [114,49] CH (rul 0 (by decide)) rfl;have w:=fn [114,50] Cb (rul 1 (by decide)) rfl;have v:=fn [114,51] DB (rul 2 (by decide)) rfl;have u:=fn [114,52] BT (rul 3 (by decide)) rfl;have s:=fn [97] Cb (by obtain⟨x,m,q,hx⟩:=hf.pay;exact⟨_,hx,rfl,rfl⟩) rfl;have j:∀(nm:List UInt8) (t:Ty),(∃d∈ds,d.name=nm/\d.kind=2)->(∀d:Df,NI d->d.kind=2->d.name=nm->I1 d=t)->CN (bs.filter (·.kind==2)) nm=NJ t:=λnm t ⟨d,hd,hn,a⟩ hl=>by refine M7 _ _ ⟨d,mem_filter.2 ⟨b d hd,beq_iff_eq.2 a⟩,hn⟩ λq i c=>?_;obtain⟨g,f⟩:=mem_filter.1 i;exact hl q (hb q g) (eq_of_beq f) c
 have l:∀(nm:List UInt8) (t:Ty),(∃d∈ds,d.name=nm/\d.kind=5)->(∀d:Df,NI d->d.kind=5->d.name=nm->I1 d=t)->CN (bs.filter (·.kind==5)) nm=NJ t:=λnm t ⟨d,hd,hn,a⟩ hl=>by refine M7 _ _ ⟨d,mem_filter.2 ⟨b d hd,beq_iff_eq.2 a⟩,hn⟩ λq i c=>?_;obtain⟨g,f⟩:=mem_filter.1 i;exact hl q (hb q g) (eq_of_beq f) c
 refine⟨λt z nm hm=>?_,j _ _ ?_ ?_,j _ _ ?_ ?_,l _ _ ?_ ?_,l _ _ ?_ ?_⟩
 ·rcases qd z with rfl | rfl | rfl | rfl | rfl
  ·have h2:nm=[103]\/nm=[114,52]:=by
    revert hm
    show nm∈[103]::cond (decide (4<n)) [[114,52]] []->_
    cases decide (4<n)<;>simp +contextual
   rcases h2 with rfl | rfl
   ·exact p
   exact u
  ·have h2:nm=[114,50]\/nm=[97]:=by
    revert hm
    show nm∈cond (decide (2<n)) [[114,50]] []++cond (decide (4<n)) [[97]] []->_
    cases decide (2<n)<;>cases decide (4<n)<;>simp
    ·exact λh=>.inr h
    exact λh=>.inl h
   rcases h2 with rfl | rfl
   ·exact w
   exact s
  ·have h2:nm=[104]:=by
    revert hm
    show nm∈[[104]]->_;simp
   rw[h2];exact o
  ·have h2:nm=[114,49]:=by
    revert hm
    show nm∈cond (decide (1<n)) [[114,49]] []->_
    cases decide (1<n)<;>simp
   rw[h2];exact y
  have h2:nm=[102]\/nm=[114,51]:=by
   revert hm
   show nm∈[102]::cond (decide (3<n)) [[114,51]] []->_
   cases decide (3<n)<;>simp +contextual
  rcases h2 with rfl | rfl
  ·exact r
  exact v
 ·obtain⟨es,_,h⟩:=hf.scw;exact⟨_,h,rfl,rfl⟩
 ·intro d hd a hn;rcases hd.sca a with⟨_,h⟩ | ⟨h,_⟩
  ·exact h
  rw[hn]at h;exact absurd h (by decide)
 ·obtain⟨es,_,h⟩:=hf.scs;exact⟨_,h,rfl,rfl⟩
 ·intro d hd a hn;rcases hd.sca a with⟨h,_⟩ | ⟨_,h⟩
  ·rw[hn]at h;exact absurd h (by decide)
  exact h
 ·exact⟨⟨5,[103,114,111,115,115],false,1,0,0,0,[],BU,0,0,0⟩,hf.ins _ (by simp[Fa]),rfl,rfl⟩
 ·intro d hd a hn;rcases hd.pas a with⟨_,h⟩ | ⟨h,_⟩
  ·exact h
  rw[hn]at h;exact absurd h (by decide)
 ·exact⟨⟨5,[116,105,109,101],false,0,1,0,0,[],BU,0,0,0⟩,hf.ins _ (by simp[Fa]),rfl,rfl⟩
 intro d hd a hn;rcases hd.pas a with⟨h,_⟩ | ⟨_,h⟩
 ·rw[hn]at h;exact absurd h (by decide)
 exact h
def QC (ds:List Df) (day:Int) (i:Nat):Bool:=cond (cond ((ds.getD i default).kind==1) (true) ((ds.getD i default).kind==5)) (true) (cond (decide ((ds.getD i default).frm<=day)) (!(Eb ds day i)) (false))
theorem Pu {F:Df->Bool}:∀(l:List Df) (i:Nat) (a:Int),(∀x∈l,F x=false)->C1 F l i a=-1
 | [],_,_,_=>by rw[C1]
 | e::l,i,a,h=>by rw[C1,h e (by simp)];exact Pu l (i+1) a λx hx=>h x (by simp[hx])
theorem Y3 {F:Df->Bool} {l:List Df} (h:∀x∈l,F x=false):Ei F l=false:=by unfold Ei AK;rw[Pu l 0 0 h];rfl
theorem iI (t:Ty):Gu t.1 t.2.1 t.2.2.1 t.2.2.2 t.1 t.2.1 t.2.2.1 t.2.2.2=0:=by
 unfold Gu;rw[beq_self_eq_true,beq_self_eq_true,beq_self_eq_true,beq_self_eq_true]
 cases t.1<;>rfl
theorem SU (d:Df):Am d.kind d.tb d.tm d.th d.td=I1 d:=by
 unfold Am I1
 cases d.kind==4<;>rfl
theorem xu {d:Df} {ns ss ps:List Df} (hd:NI d) (hk:d.kind=3\/d.kind=4) (hT:∀n,Tab n ns ss ps):DX d ns ss ps=0/\Dc d.body=true:=by
 obtain⟨n,h,hx,h3,h5⟩:=hd.bod hk;have hv:Dc d.body=true:=PT hx 32 (by omega) h5;have hu:Bv d.body ns ss ps=NJ (I1 d):=by unfold Bv;rw[hv];exact iU (hT n) hx h5
 refine⟨?_,hv⟩;unfold DX;rw[hu,SU];exact iI (I1 d)
theorem xf {d:Df} {ns:List Df} (hd:NI d) (hk:d.kind=5) (hn:∀q∈ns,NI q/\Hj q=true):C8 d ns=0:=by
 unfold C8 Γ AK;rw[Pu ns 0 0 λq hq=>?_]
 ·rfl
 refine decide_eq_false λe=>?_;have h1:=(hn q hq).1.nam (Zb (hn q hq).2);rw[e]at h1;rcases hd.pas hk with⟨h2,_⟩ | ⟨h2,_⟩<;>rw[h2]at h1<;>cases h1
theorem PP (bs:List Df):∀(es:List Df) (i:Nat) (a:List (Int×Int)),(∀(j:Nat) e,es[j]?=some e->Ei (λx=>Hu x e) (bs.take (i+j))=false/\(e.kind=5->C8 e (AZ bs).1=0)/\(e.kind=3\/e.kind=4->DX e (AZ bs).1 (AZ bs).2.1 (AZ bs).2.2=0))->C4 bs es i a=(a,0)
 | [],_,_,_=>by rw[C4]
 | e::es,i,a,h=>by
  obtain⟨h1,h2,h3⟩:=h 0 e rfl;have ih:=PP bs es (i+1) a λj x hx=>by have:=h (j+1) x (by simpa using hx);rwa [show i+(j+1)=i+1+j by omega]at this
  rw[C4,show Ei (λx=>Hu x e) (bs.take i)=false from h1];simp only[cond_false]
  cases h5:e.kind==5
  ·simp only[cond_false]
   cases h34:(cond (e.kind==3) (true) (e.kind==4))
   ·exact ih
   have hk:e.kind=3\/e.kind=4:=by
    cases h6:e.kind==3
    ·rw[h6]at h34;exact .inr (eq_of_beq h34)
    exact .inl (eq_of_beq h6)
   rw[h3 hk];exact ih
  rw[h2 (eq_of_beq h5)];exact ih
theorem P3 {ds:List Df} {e:Df} {es:List Df} {i:Nat} (he:e::es=ds.drop i):i<ds.length/\ds.getD i default=e/\es=ds.drop (i+1):=by
 have a:i<ds.length:=by have:=congrArg length he;rw[length_cons,length_drop]at this;omega
 have b:=getElem_cons_drop a;rw[<-he]at b;obtain⟨c,h2⟩:=List.cons.inj b;exact⟨a,by rw[getD_eq_getElem?_getD,getElem?_eq_getElem a,c];rfl,h2.symm⟩
theorem NH {ds:List Df} {day:Int}:∀(es:List Df) (i:Nat) (a:List Nat),es=ds.drop i->C0 ds day es i a=a++(range' i es.length).filter (QC ds day)
 | [],i,a,_=>by rw[C0];simp
 | e::es,i,a,he=>by
  obtain⟨_,hd,h2⟩:=P3 he;have b:QC ds day i=cond (cond (e.kind==1) (true) (e.kind==5)) (true) (cond (decide (e.frm<=day)) (!(Eb ds day i)) (false)):=by unfold QC;rw[hd]
  rw[C0,<-b,length_cons,range'_succ,filter_cons]
  cases hc:QC ds day i
  ·simp only[cond_false];rw[NH es (i+1) a h2];rfl
  simp only[cond_true];rw[NH es (i+1) (a++[i]) h2,append_assoc];rfl
theorem PR (ds:List Df) (day:Int):As ds day=(range' 0 ds.length).filter (QC ds day):=by unfold As;rw[NH ds 0 [] (by simp),nil_append]
theorem NG {ds:List Df} {day:Int} {i:Nat}:i∈As ds day↔i<ds.length/\QC ds day i=true:=by rw[PR,mem_filter,mem_range'_1];simp
theorem YV (ds:List Df) (day:Int):(As ds day).Nodup:=by rw[PR];exact(nodup_range' (s:=0) (n:=ds.length)).filter _
theorem W8 {ds:List Df} {day:Int} {i:Nat}:∀(es:List Df) (b:Nat) (a:Bool),es=ds.drop b->DU ds day i es b a=true->∃j,j<ds.length/\(ds.getD j default).kind=(ds.getD i default).kind/\(ds.getD j default).name=(ds.getD i default).name/\(ds.getD j default).frm<=day/\((ds.getD i default).frm<(ds.getD j default).frm\/((ds.getD j default).frm=(ds.getD i default).frm/\j<i))
 | [],_,_,_,h=>by rw[DU]at h;cases h
 | e::es,b,a,he,h=>by
  obtain⟨d,hd,h2⟩:=P3 he;rw[DU]at h
  cases hc:(cond (cond (!(e.kind==(ds.getD i default).kind)) (true) (!(decide (e.name=(ds.getD i default).name)))) (true) (decide (day<e.frm)))
  ·rw[hc]at h;simp only[cond_false]at h
   cases hc2:(cond (decide ((ds.getD i default).frm<e.frm)) (true) (cond (e.frm==(ds.getD i default).frm) (decide ((b:Int)<(i:Int))) (false)))
   ·rw[hc2]at h;exact W8 es (b+1) a h2 h
   have c:e.kind=(ds.getD i default).kind:=by
    cases hk:(e.kind==(ds.getD i default).kind)
    ·rw[hk]at hc;cases hc
    exact eq_of_beq hk
   have f:e.name=(ds.getD i default).name:=by
    cases hk:decide (e.name=(ds.getD i default).name)
    ·rw[hk,c,beq_self_eq_true]at hc;cases hc
    exact of_decide_eq_true hk
   have g:e.frm<=day:=by
    cases hk:decide (day<e.frm)
    ·have:=of_decide_eq_false hk;omega
    rw[hk,c,f,beq_self_eq_true,decide_eq_true rfl]at hc;cases hc
   refine⟨b,d,by rw[hd];exact c,by rw[hd];exact f,by rw[hd];exact g,?_⟩;rw[hd]
   cases hk:decide ((ds.getD i default).frm<e.frm)
   ·rw[hk]at hc2
    cases hk2:(e.frm==(ds.getD i default).frm)
    ·rw[hk2]at hc2;cases hc2
    rw[hk2]at hc2;exact .inr ⟨eq_of_beq hk2,by have:=of_decide_eq_true (show decide ((b:Int)<(i:Int))=true from hc2);omega⟩
   exact .inl (of_decide_eq_true hk)
  rw[hc]at h;exact W8 es (b+1) a h2 h
theorem AC9 {ds:List Df} {day:Int}:∀(M i:Nat),(day-(ds.getD i default).frm).toNat*(ds.length+1)+i=M->i<ds.length->(ds.getD i default).frm<=day->∃j∈As ds day,(ds.getD j default).kind=(ds.getD i default).kind/\(ds.getD j default).name=(ds.getD i default).name:=by
 intro M
 induction M using Nat.strongRecOn with
 | _ M ih=>
  intro i f hi hf
  cases hr:Eb ds day i
  ·refine⟨i,NG.2 ⟨hi,?_⟩,rfl,rfl⟩;unfold QC;rw[hr,decide_eq_true hf]
   cases (cond ((ds.getD i default).kind==1) (true) ((ds.getD i default).kind==5))<;>rfl
  obtain⟨j,n,h2,m,l,a⟩:=W8 ds 0 false (by simp) hr;have b:(day-(ds.getD j default).frm).toNat*(ds.length+1)+j<M:=by
   rw[<-f];rcases a with a | ⟨a,o⟩
   ·have h:(day-(ds.getD j default).frm).toNat+1<=(day-(ds.getD i default).frm).toNat:=by omega
    have g:=Nat.mul_le_mul_right (ds.length+1) h;rw[Nat.succ_mul]at g;omega
   rw[a];omega
  obtain⟨k,e,d,c⟩:=ih _ b j rfl n l;exact⟨k,e,d.trans h2,c.trans m⟩
theorem ZM:∀(l m:List Nat),l.Nodup->(∀y∈l,y∈m)->l.length<=m.length
 | [],_,_,_=>Nat.zero_le _
 | x::l,m,hd,hs=>by
  rw[nodup_cons]at hd;have c:=ZM l (m.erase x) hd.2 (λy b=>by have a:y≠x:=λe=>hd.1 (e ▸ b);exact(mem_erase_of_ne a).2 (hs y (by simp[b])))
  have hx:=hs x (by simp);rw[length_erase_of_mem hx]at c;have:=length_pos_of_mem hx;rw[length_cons];omega
theorem Tn {F:Nat->Bool} {l:List Nat} (h:decide (CX F l<0)=false):F (l.getD (CX F l).toNat default)=true:=by
 have key:∀(es:List Nat) (i:Nat) (a:Int),es=l.drop i->0<=CM F es i a->F (l.getD (CM F es i a).toNat default)=true:=by
  intro es
  induction es with
  | nil=>intro i a _ h;rw[CM]at h;exact absurd h (by decide)
  | cons e es ih=>
   intro i a he h;have b:i<l.length:=by have:=congrArg length he;rw[length_cons,length_drop]at this;omega
   have c:=getElem_cons_drop b;rw[<-he]at c;obtain⟨d,h2⟩:=List.cons.inj c;rw[CM]at h ⊢
   cases hc:F e
   ·rw[hc]at h;exact ih (i+1) a h2.symm h
   show F (l.getD ((i:Int)).toNat default)=true;rw[Int.toNat_natCast,getD_eq_getElem?_getD,getElem?_eq_getElem b,d];exact hc
 have d:=of_decide_eq_false h;exact key l 0 0 (by simp) (by unfold CX at d;omega)
abbrev Fo (ds:List Df) (i:Nat):Bool:=BM (ds.getD i default)
theorem Px {ds:List Df} {day:Int}:∀(act:List Nat) (a0:Int) (b:List Nat) (a:List (Nat×List Nat)),(∀e∈act,Fo ds e=true->(Cu ds (As ds day) e).2=0)->(CA ds day act a0 b a).2.2=0/\(CA ds day act a0 b a).1=b++act.filter (Fo ds)/\(∀i,i∈act.filter (Fo ds)->Bf (CA ds day act a0 b a).2.1 i=some (Cu ds (As ds day) i).1)/\∀i,i∉act.filter (Fo ds)->Bf (CA ds day act a0 b a).2.1 i=Bf a i
 | [],_,b,a,_=>by rw[CA];exact⟨rfl,by simp,λi hi=>(by cases hi),λ_ _=>rfl⟩
 | e::act,a0,b,a,h=>by
  have d:∀q∈act,Fo ds q=true->(Cu ds (As ds day) q).2=0:=λq g=>h q (by simp[g]);rw[CA,filter_cons]
  cases hc:BM (κ ds e)
  ·simp only[Bool.not_false,cond_true,show Fo ds e=false from hc];exact Px act a0 b a d
  have j:=h e (by simp) hc;rw[j];simp only[Bool.not_true,cond_false,beq_self_eq_true,show Fo ds e=true from hc];obtain⟨m,l,k,f⟩:=Px act a0 (b++[e]) ((e,(Cu ds (As ds day) e).1)::a) d;refine⟨m,by rw[l,append_assoc];rfl,λi hi=>?_,λi hi=>?_⟩
  ·by_cases hm:i∈act.filter (Fo ds)
   ·exact k i hm
   rcases mem_cons.1 hi with rfl | hi
   ·rw[f i hm,Bf,if_pos rfl]
   exact absurd hi hm
  have c:i≠e/\i∉act.filter (Fo ds):=⟨λhe=>hi (by rw[he];exact mem_cons_self ..),λhm=>hi (mem_cons_of_mem _ hm)⟩;rw[f i c.2,Bf]
  split
  ·rename_i e'
   exact absurd (by first | exact e' | exact e'.symm) c.1
  rfl
theorem PG {F:Nat->Bool}:∀(l:List Nat) (i:Nat) (a:Int),(∀x∈l,F x=false)->CM F l i a=-1
 | [],_,_,_=>by rw[CM]
 | e::l,i,a,h=>by rw[CM,h e (by simp)];exact PG l (i+1) a λx hx=>h x (by simp[hx])
theorem LL {F:Nat->Bool} {x:Nat} (b:F x=true):∀(l:List Nat) (i:Nat) (a:Int),x∈l->0<=CM F l i a
 | [],_,_,h=>by cases h
 | e::l,i,a,h=>by
  rw[CM]
  cases hc:F e
  ·rcases mem_cons.1 h with rfl | h
   ·rw[b]at hc;cases hc
   exact LL b l (i+1) a h
  show(0:Int)<=(i:Int);omega
theorem qS {ml:List (Nat×Bool)} {ns:List (Nat×List Nat)} {i:Nat} (b:(Bf ml i).getD false=false) (h2:∀j∈(Bf ns i).getD [],(Bf ml j).getD false=true):DQ ml ns i=true:=by unfold DQ;rw[b];show(!(EV _ _))=true;unfold EV CX;rw[PG _ 0 0 λj a=>by unfold GZ;rw[h2 j a];rfl];rfl
theorem qZ {ml:List (Nat×Bool)} {ns:List (Nat×List Nat)} {i:Nat} (h:DQ ml ns i=true):(Bf ml i).getD false=false/\∀j∈(Bf ns i).getD [],(Bf ml j).getD false=true:=by
 unfold DQ at h
 cases h1:(Bf ml i).getD false
 ·rw[h1]at h;refine⟨rfl,λj a=>?_⟩
  cases h2:(Bf ml j).getD false
  ·have b:EV (λj=>GZ j ml) ((Bf ns i).getD [])=true:=by unfold EV CX;exact decide_eq_true (LL (F:=λj=>GZ j ml) (x:=j) (by show(!((Bf ml j).getD false))=true;rw[h2];rfl) _ 0 0 a)
   rw[b]at h;cases h
  rfl
 rw[h1]at h;cases h
structure Sq (nodes:List Nat) (r:List Nat) (ml:List (Nat×Bool)):Prop where
 nodup:r.Nodup
 sub:∀i∈r,i∈nodes
 ml:∀i,(Bf ml i).getD false=true↔i∈r
theorem Sq.step {nodes r:List Nat} {ml:List (Nat×Bool)} (h:Sq nodes r ml) {y:Nat} (c:y∈nodes) (hn:(Bf ml y).getD false=false):Sq nodes (r++[y]) ((y,true)::ml):=by
 refine⟨?_,λi hi=>?_,λi=>?_⟩
 ·rw[nodup_append];refine⟨h.nodup,by simp,λa ha b hb=>?_⟩;rw[mem_singleton.1 hb];intro e;have:=(h.ml a).2 ha;rw[e,hn]at this
  cases this
 ·rcases mem_append.1 hi with hi | hi
  ·exact h.sub i hi
  rw[mem_singleton.1 hi];exact c
 rw[Bf,mem_append,mem_singleton]
 split
 ·rename_i e
  exact⟨λ_=>.inr (by first | exact e.symm | exact e),λ_=>rfl⟩
 rename_i e
 rw[h.ml i];exact⟨.inl,λh=>h.resolve_right λh2=>e (by first | exact h2.symm | exact h2)⟩
theorem AIH (nodes:List Nat):Sq nodes [] []:=⟨nodup_nil,λi hi=>(by cases hi),λi=>⟨λh=>(by cases h),λh=>(by cases h)⟩⟩
theorem RL {nodes:List Nat} {ns:List (Nat×List Nat)} (b:∀r ml,Sq nodes r ml->r.length<nodes.length->∃i∈nodes,DQ ml ns i=true):∀(k:Nat) (r:List Nat) (ml:List (Nat×Bool)),Sq nodes r ml->(Hi nodes ns k r ml).2=0
 | 0,_,_,_=>rfl
 | k+1,r,ml,h=>by
  rw[Hi]
  cases hc:decide ((r.length:Int)<(nodes.length:Int))
  ·rfl
  simp only[cond_true];obtain⟨i,hi,hr⟩:=b r ml h (by have:=of_decide_eq_true hc;omega);have a:decide (CX (DQ ml ns) nodes<0)=false:=decide_eq_false (by have:=LL (F:=DQ ml ns) hr nodes 0 0 hi;unfold CX;omega)
  rw[a];simp only[cond_false];exact RL b k _ _ (h.step (DR (LM a).2) (qZ (Tn a)).1)
def LD (n:Int):List (List UInt8):=[[102],[104],[103]]++cond (decide (1<n)) [[114,49]] []++cond (decide (2<n)) [[114,50]] []++cond (decide (3<n)) [[114,51]] []++cond (decide (4<n)) [[114,52],[97]] []
def Lp (ι:List (List UInt8)) (r:Ex):Prop:=(r.op=3/\r.nm∈ι)\/(r.op=4/\(r.nm=[119]\/r.nm=[115]))
theorem mT {t:Ty} {n:Int} {nm:List UInt8} (h:nm∈LG t n):nm∈LD n:=by
 have i:∀a b c d e f g k:Bool,(cond a ([102]::cond e [[114,51]] []) (cond b (cond f [[114,50]] []++cond g [[97]] []) (cond c [[104]] (cond d (cond k [[114,49]] []) ([103]::cond g [[114,52]] [])))):List (List UInt8)).all (λq=>(([[102],[104],[103]]:List (List UInt8))++cond k [[114,49]] []++cond f [[114,50]] []++cond e [[114,51]] []++cond g [[114,52],[97]] []).contains q)=true:=by decide
 exact contains_iff_mem.1 (all_eq_true.1 (i _ _ _ _ _ _ _ _) nm h)
theorem RG {r:Ex}:∀ {ks:List Ex},r∈GH ks->∃k∈ks,r∈Gh k
 | [],h=>by rw[GH]at h;cases h
 | k::ks,h=>by
  rw[GH]at h;rcases mem_append.1 h with h | h
  ·exact⟨k,by simp,h⟩
  obtain⟨q,a,h2⟩:=RG h;exact⟨q,by simp[a],h2⟩
theorem Pe {op num den mu hu du c m:Int} {nm:List UInt8} {ks:List Ex} {r:Ex} (h:r∈Gh (.mk op num den mu hu du nm c m ks)):(r=.mk op num den mu hu du nm c m ks/\(op=3\/op=4))\/∃k∈ks,r∈Gh k:=by
 rw[Gh]at h;rcases mem_append.1 h with h | h
 ·left
  cases hc:cond (op==3) true (op==4)
  ·rw[hc]at h;cases h
  rw[hc]at h;refine⟨mem_singleton.1 h,?_⟩
  cases h3:op==3
  ·rw[h3]at hc;exact .inr (eq_of_beq hc)
  exact .inl (eq_of_beq h3)
 exact .inr (RG h)
theorem xe {n:Int} {h:Nat} {t:Ty} {x:Ex} (hx:DL n h t x):∀r∈Gh x,Lp (LD n) r:=by
 have b:∀ {op num den mu hu du c m:Int} {nm:List UInt8} {ks:List Ex},op≠3/\op≠4->(∀k∈ks,∀r∈Gh k,Lp (LD n) r)->∀r∈Gh (.mk op num den mu hu du nm c m ks),Lp (LD n) r:=λg h2 r hr=>by
  rcases Pe hr with⟨_,e | e⟩ | ⟨k,a,d⟩
  ·exact absurd e g.1
  ·exact absurd e g.2
  exact h2 k a r d
 have f:∀k∈([]:List Ex),∀r∈Gh k,Lp (LD n) r:=λk a=>by cases a
 have one:∀ {x:Ex},(∀r∈Gh x,Lp (LD n) r)->∀k∈[x],∀r∈Gh k,Lp (LD n) r:=λhx k a=>by rw[mem_singleton.1 a];exact hx
 induction hx with
 | tru h c hc=>exact b (by decide) f
 | name h t nm hm=>
  intro r hr;rcases Pe hr with⟨rfl,_⟩ | ⟨k,a,_⟩
  ·exact .inl ⟨rfl,mT hm⟩
  cases a
 | past h t nm op c ht hop g e=>exact b (by omega) f
 | num h t q ht h5 hq=>exact b (by decide) f
 | not h x hx ih=>exact b (by decide) (one ih)
 | neg h t x ht hx ih=>exact b (by decide) (one ih)
 | round h t x q m ht hq m0 m6 hx ih=>exact b (by decide) (one ih)
 | scale h t nm x ht hx ih=>
  intro r hr;rcases Pe hr with⟨rfl,_⟩ | ⟨k,a,d⟩
  ·exact .inr ⟨rfl,ht.elim (λh=>.inl h.2) λh=>.inr h.2⟩
  rw[mem_singleton.1 a]at d;exact ih r d
 | two h op t t1 t2 x y ht hx hy ih1 ih2=>
  exact b (by unfold Nd at ht;omega) λk a=>by
   rcases mem_cons.1 a with rfl | a
   ·exact ih1
   rw[mem_singleton.1 a];exact ih2
 | ite h t x y z hx hy hz ih1 ih2 ih3=>
  exact b (by decide) λk a=>by
   rcases mem_cons.1 a with rfl | a
   ·exact ih1
   rcases mem_cons.1 a with rfl | a
   ·exact ih2
   rw[mem_singleton.1 a];exact ih3
section
variable {bs:List Df} {x:Ex}
theorem Xj (f:x.op=3):∀(act:List Nat) (a:Int) (b:Bool),(∃e∈act,Fo bs e=true/\(κ bs e).name=x.nm)->(Cs bs x act a b).2=true/\(Cs bs x act a b).1∈act/\Fo bs (Cs bs x act a b).1=true/\(bs.getD (Cs bs x act a b).1 default).name=x.nm
 | [],_,_,⟨e,he,_⟩=>by cases he
 | e::act,a,b,⟨q,d,hc,hn⟩=>by
  rw[Cs];have m:(x.op==3)=true:=by rw[f];rfl
  rw[m]
  cases hcc:(cond (cond (cond true (BM (κ bs e)) (false)) (true) (cond (x.op==4) ((κ bs e).kind==2) (false))) (decide ((κ bs e).name=x.nm)) (false))
  ·have c:q∈act:=by
    rcases mem_cons.1 d with rfl | d
    ·rw[show BM (κ bs q)=true from hc,hn,decide_eq_true rfl]at hcc;cases hcc
    exact d
   obtain⟨l,k,j,i⟩:=Xj f act a b ⟨q,c,hc,hn⟩;exact⟨l,mem_cons_of_mem _ k,j,i⟩
  have g:BM (κ bs e)=true:=by
   cases hk:BM (κ bs e)
   ·rw[hk,f]at hcc;cases hcc
   rfl
  have h:(κ bs e).name=x.nm:=by rw[g]at hcc;exact of_decide_eq_true hcc
  exact⟨rfl,mem_cons_self ..,g,h⟩
theorem Xi (f:x.op=4):∀(act:List Nat) (a:Int) (b:Bool),(∃e∈act,(κ bs e).kind=2/\(κ bs e).name=x.nm)->(C9 bs x act a b).2=true/\(bs.getD (C9 bs x act a b).1 default).kind=2
 | [],_,_,⟨e,he,_⟩=>by cases he
 | e::act,a,b,⟨q,d,hc,hn⟩=>by
  rw[C9];have h:(x.op==3)=false:=by rw[f];rfl
  have g:(x.op==4)=true:=by rw[f];rfl
  rw[h,g]
  cases hcc:(cond (cond (cond false (BM (κ bs e)) (false)) (true) (cond true ((κ bs e).kind==2) (false))) (decide ((κ bs e).name=x.nm)) (false))
  ·have c:q∈act:=by
    rcases mem_cons.1 d with rfl | d
    ·rw[hc,hn,decide_eq_true rfl]at hcc;cases hcc
    exact d
   exact Xi f act a b ⟨q,c,hc,hn⟩
  refine⟨rfl,?_⟩
  cases hk:(κ bs e).kind==2
  ·rw[hk]at hcc;cases hcc
  exact eq_of_beq hk
theorem Xk (j:x.op=3) {act:List Nat}:∀(es:List Df) (i:Nat) (a:Int) (b:Bool),es=bs.drop i->((∃d∈es,d.kind=1/\d.name=x.nm)\/∃e∈act,Fo bs e=true/\(bs.getD e default).name=x.nm)->(Cl bs act x es i a b).2=true/\((bs.getD (Cl bs act x es i a b).1 default).kind=1\/((Cl bs act x es i a b).1∈act/\Fo bs (Cl bs act x es i a b).1=true/\(bs.getD (Cl bs act x es i a b).1 default).name=x.nm))
 | [],i,a,b,_,h=>by
  rw[Cl];rcases h with⟨d,hd,_⟩ | h
  ·cases hd
  obtain⟨l,k⟩:=Xj j act a b h;exact⟨l,.inr k⟩
 | e::es,i,a,b,he,h=>by
  obtain⟨_,hd,h2⟩:=P3 he;rw[Cl]
  cases hc:(cond (e.kind==1) (decide (e.name=x.nm)) (false))
  ·refine Xk j es (i+1) a b h2 ?_;rcases h with⟨d,c,g,f⟩ | h
   ·left;rcases mem_cons.1 c with rfl | c
    ·rw[g,f,decide_eq_true rfl]at hc;cases hc
    exact⟨d,c,g,f⟩
   exact .inr h
  refine⟨rfl,.inl ?_⟩;show(bs.getD i default).kind=1;rw[hd]
  cases hk:e.kind==1
  ·rw[hk]at hc;cases hc
  exact eq_of_beq hk
theorem YF {d:Df} (h:d.kind=1\/d.kind=2):BM d=false:=by unfold BM;rcases h with h | h<;>rw[h]<;>rfl
theorem Ls {ι:List (List UInt8)} {act:List Nat} {P:Nat->Prop} (i:∀j∈act,Fo bs j=true->(κ bs j).name∈ι->P j) (g:∀nm∈ι,(∃d∈bs,d.kind=1/\d.name=nm)\/∃e∈act,Fo bs e=true/\(κ bs e).name=nm) (c:∀nm:List UInt8,nm=[119]\/nm=[115]->∃e∈act,(κ bs e).kind=2/\(κ bs e).name=nm):∀(es:List Ex) (a:Int) (r:List Nat),(∀e∈es,Lp ι e)->(∀j∈r,P j)->(DV bs act es a r).2=0/\∀j∈(DV bs act es a r).1,P j
 | [],_,r,_,hr=>by rw[DV];exact⟨rfl,λj f=>hr j (Sy.1 (OD f))⟩
 | e::es,a,r,hes,hr=>by
  have b:∀q∈es,Lp ι q:=λq n=>hes q (by simp[n]);have key:(Az bs act e).2=true/\(BM (bs.getD (Az bs act e).1 default)=true->P (Az bs act e).1):=by
   unfold Az;rcases hes e (by simp)with⟨m,hn⟩ | ⟨l,hn⟩
   ·rw[show(e.op==3)=true by rw[m];rfl];simp only[cond_true];obtain⟨k,h⟩:=Xk (bs:=bs) m (act:=act) bs 0 0 false (by simp) (g _ hn);refine⟨k,λhc=>?_⟩;rcases h with h | ⟨h,p,o⟩
    ·rw[show BM (bs.getD (Cl bs act e bs 0 0 false).1 default)=false from YF (.inl h)]at hc;cases hc
    exact i _ h p (by rw[o];exact hn)
   rw[show(e.op==3)=false by rw[l];rfl];simp only[cond_false];obtain⟨k,h⟩:=Xi (bs:=bs) l act 0 false (c _ hn);exact⟨k,λhc=>by rw[show BM (bs.getD (C9 bs e act 0 false).1 default)=false from YF (.inr h)]at hc;cases hc⟩
  rw[DV,key.1];simp only[Bool.not_true,cond_false]
  cases hc:BM (bs.getD (Az bs act e).1 default)
  ·exact Ls i g c es a r b hr
  refine Ls i g c es a _ b λj f=>?_;rcases mem_append.1 f with f | f
  ·exact hr j f
  rw[mem_singleton.1 f];exact key.2 hc
end
end Go.Proofs.YtkpemkkbjfbmaaaGreat

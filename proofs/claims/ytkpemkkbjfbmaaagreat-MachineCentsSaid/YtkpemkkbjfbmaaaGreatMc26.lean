/- Contracts of functions, part 26. -/
import Derived.Test.YtkpemkkbjfbmaaaGreatMc24
import Derived.Test.YtkpemkkbjfbmaaaGreatMc25
import Derived.Test.YtkpemkkbjfbmaaaGreatMc22
import Derived.Test.YtkpemkkbjfbmaaaGreatMc02
set_option linter.all false
namespace Go.Proofs.YtkpemkkbjfbmaaaGreat
open List
noncomputable section
open Go.RowKit
set_option maxRecDepth 100000
set_option maxHeartbeats 1000000
attribute [local irreducible] BI BQ AD AE AG Au Ab AO A8 Bi Ct BX EE EH DW BO At Fr
def iS (d:EA) (x:AM) (b:Int×Int):Int×Int×Int:=cond (x.1==4) (Ix (d.scs.getD x.2.1.toNat default) b.1 b.2) (cond (x.1==14) (SM b.1 b.2) (cond (x.1==15) ((D5 (b.1==0)).1,(D5 (b.1==0)).2,0) (Ds b.1 b.2 x.2.2.1 x.2.2.2.1 x.2.2.2.2.2)))
def Jt (d:EA) (vs:List (Int×Int)) (x:AM) (rs:List (Int×Int)):Int×Int×Int:=cond ((Af x.1).1==0) (gV d vs x) (cond ((Af x.1).1==1) (iS d x (rs.getD 0 default)) (DG x.1 (rs.getD 1 default).1 (rs.getD 1 default).2 (rs.getD 0 default).1 (rs.getD 0 default).2))
theorem AY.behind {b:Nat} {w:World} {A ζ:List Th} (h:AY b w (A++ζ)):AY b w ζ:=by
 have hg:∀ {i:Nat} {t:Th},ζ[i]?=some t->(A++ζ)[A.length+i]?=some t:=λhi=>by rw[getElem?_append_right (by omega),Nat.add_sub_cancel_left];exact hi
 exact⟨h.base,λi t hi=>h.all _ t (hg hi),λi t hi=>h.lo _ t (hg hi),λi j s t hi a hn=>h.apart _ _ s t (hg hi) (hg a) (by omega)⟩
theorem ACa {w:World} {m:HP} {d:EA} {g:Nat} {vA:Option Addr} {vs:List (Int×Int)} {vc:Nat} {t:Option Addr} {s:Nat} {rs:List (Int×Int)} {ζ:List Th} {q:World} (x:AM) (χ:Jg w m d) (v:Sr d vs x) (hv:∀u,Below (U w) w u->AY (U w) u ζ->HV u vA vs) (h1:1<=x.1) (a0:x.1<=20) (c0:x.1≠16) (b0:x.1≠17) (hl:rs.length<=64) (ht:(Af x.1).1<=(rs.length:Int)) (M:Ef w m d g vA vs vc t s rs.reverse ζ q) :
  Calls Tryz.prog 66 ([Z g,D (FR x)]:List Value).toArray q λp w'=>p=.returned (CY (Jt d vs x rs))/\Ef w m d g vA vs vc t s (rs.drop (Af x.1).1.toNat).reverse ζ w':=by
 obtain⟨o,a,n,e,c,r⟩:=x;dsimp only at h1 a0 c0 b0 ht;have e0:rs.reverse.length<=64:=by rw[length_reverse];exact hl
 have y:∀ {f:Int×Int×Int} ,(Af o).1=1->(∀(b:Int×Int) (l:List (Int×Int)),rs=b::l->iS d (o,a,n,e,c,r) b=f->Calls Tryz.prog 66 ([Z g,D (FR (o,a,n,e,c,r))]:List Value).toArray q λp w'=>p=.returned (CY f)/\Ef w m d g vA vs vc t s l.reverse ζ w')->iS d (o,a,n,e,c,r) (rs.getD 0 default)=f->Calls Tryz.prog 66 ([Z g,D (FR (o,a,n,e,c,r))]:List Value).toArray q λp w'=>p=.returned (CY (Jt d vs (o,a,n,e,c,r) rs))/\Ef w m d g vA vs vc t s (rs.drop (Af o).1.toNat).reverse ζ w':=λ{f} he hk hf=>by
  cases rs with
  | nil=>rw[he]at ht;exact absurd ht (by decide)
  | cons b l=>
   refine(hk b l rfl hf).mono λp w' z=>?_;unfold Jt;rw[show((Af (o,a,n,e,c,r).1).1==0)=false by show((Af o).1==0)=false;rw[he];rfl,show((Af (o,a,n,e,c,r).1).1==1)=true by show((Af o).1==1)=true;rw[he];rfl,he];rw[<-hf]at z;exact z
 have two:5<=o->o<=13->Calls Tryz.prog 66 ([Z g,D (FR (o,a,n,e,c,r))]:List Value).toArray q λp w'=>p=.returned (CY (Jt d vs (o,a,n,e,c,r) rs))/\Ef w m d g vA vs vc t s (rs.drop (Af o).1.toNat).reverse ζ w':=λh5 d0=>by
  have he:(Af o).1=2:=by
   obtain rfl | rfl | rfl | rfl | rfl | rfl | rfl | rfl | rfl:o=5\/o=6\/o=7\/o=8\/o=9\/o=10\/o=11\/o=12\/o=13:=by omega
   all_goals rfl
  match rs,ht,M with
  | [],ht,_=>rw[he]at ht;exact absurd ht (by decide)
  | [_],ht,_=>rw[he]at ht;exact absurd ht (show ¬(2:Int)<=((1:Nat):Int) by decide)
  | b::f::l,_,M=>
   rw[reverse_cons,reverse_cons]at M;refine(mN h5 d0 (by rw[length_append,length_reverse];simp only[length_cons,length_nil]at hl ⊢;omega) M).mono λp w' z=>?_;unfold Jt;rw[show((Af (o,a,n,e,c,r).1).1==0)=false by show((Af o).1==0)=false;rw[he];rfl,show((Af (o,a,n,e,c,r).1).1==1)=false by show((Af o).1==1)=false;rw[he];rfl,he];exact z
 obtain rfl | rfl | rfl | rfl | h | rfl | rfl | rfl | rfl | rfl:o=1\/o=2\/o=3\/o=4\/(5<=o/\o<=13)\/o=14\/o=15\/o=18\/o=19\/o=20:=by omega
 ·exact gI M
 ·obtain⟨k,j,i⟩:=v.inp rfl;obtain rfl:a=k:=j;exact Yp rfl i χ M
 ·obtain⟨k,j,i⟩:=v.val rfl;obtain rfl:a=k:=j;exact Ym rfl i (λu M=>hv u M.B M.H.behind) M
 ·obtain⟨k,j,i⟩:=v.sca rfl;obtain rfl:a=k:=j;exact y rfl (λb l hb hf=>by subst hb;rw[reverse_cons]at M;rw[<-hf];exact Yn rfl i χ (by simp at hl ⊢;omega) M) rfl
 ·exact two h.1 h.2
 ·exact y rfl (λb l hb hf=>by subst hb;rw[reverse_cons]at M;rw[<-hf];exact mP (by simp at hl ⊢;omega) M) rfl
 ·exact y rfl (λb l hb hf=>by subst hb;rw[reverse_cons]at M;rw[<-hf];exact mO (by simp at hl ⊢;omega) M) rfl
 ·exact y rfl (λb l hb hf=>by subst hb;rw[reverse_cons]at M;rw[<-hf];exact Yo (by simp at hl ⊢;omega) M) rfl
 ·obtain⟨k,j,i⟩:=v.pas (.inl rfl);obtain rfl:a=k:=j;exact Te rfl i χ M
 obtain⟨k,j,i⟩:=v.pas (.inr rfl);obtain rfl:a=k:=j;exact gJ rfl i χ M
def Fk (d:EA) (vs:List (Int×Int)) (cs:List AM):Nat->Nat->List (Int×Int)->Nat->(Int×Int×Int)×Nat
 | 0,_,_,_=>((0,0,1),0)
 | f+1,i,rs,s=>match cs[i]? with
  | none=>(((rs.getD 0 default).1,(rs.getD 0 default).2,0),s)
  | some x=>cond (x.1==16) (Fk d vs cs f x.2.1.toNat rs (s+1)) (cond (x.1==17) (Fk d vs cs f (cond ((rs.getD 0 default).1==0) x.2.1.toNat (i+1)) (rs.drop 1) (s+1)) (cond (!((Jt d vs x rs).2.2==0)) ((0,0,(Jt d vs x rs).2.2),0) (Fk d vs cs f (i+1) (((Jt d vs x rs).1,(Jt d vs x rs).2.1)::rs.drop (Af x.1).1.toNat) (s+1))))
theorem W5 {d:EA} {vs:List (Int×Int)} {cs:List AM} {f i s:Nat} {rs:List (Int×Int)} (h:cs[i]?=none):Fk d vs cs (f+1) i rs s=(((rs.getD 0 default).1,(rs.getD 0 default).2,0),s):=by rw[Fk,h]
theorem S1 {d:EA} {vs:List (Int×Int)} {cs:List AM} {f i s:Nat} {rs:List (Int×Int)} {x:AM} (h:cs[i]?=some x):Fk d vs cs (f+1) i rs s=cond (x.1==16) (Fk d vs cs f x.2.1.toNat rs (s+1)) (cond (x.1==17) (Fk d vs cs f (cond ((rs.getD 0 default).1==0) x.2.1.toNat (i+1)) (rs.drop 1) (s+1)) (cond (!((Jt d vs x rs).2.2==0)) ((0,0,(Jt d vs x rs).2.2),0) (Fk d vs cs f (i+1) (((Jt d vs x rs).1,(Jt d vs x rs).2.1)::rs.drop (Af x.1).1.toNat) (s+1)))):=by rw[Fk,h]
def Bh (d:EA) (vs:List (Int×Int)) (cs:List AM):(Int×Int×Int)×Nat:=Fk d vs cs (cs.length+1) 0 [] 0
def Od:Op->Bool
 | .load _ _=>true
 | _=>false
noncomputable def Sf:Code:=Tryz.f34.body.getD .skip
def eG:=AB (Aq Aa 90 [.code Sf]) [.code Sf]
def uY:=AB (Aq Od 90 (AD eG)) (AD eG)
def OU:=Ψ uY
def UM:=ν (Au OU)
def uX:=AB (Aq Aa 90 (AE UM)) (AE UM)
def uW:=ν (AD (AD uX))
def eF:=Ξ uW
def uV:=Θ eF
def AE9:=Ψ uV
def uU:=Ξ eF
def WX:=Ψ uU
def AAz:=Θ WX
def ky:=Ac 13 (AG WX)
def kw:=Ξ UM
def AAy:=Ψ kw
theorem YH {w:World} {m:HP} {d:EA} {g:Nat} {vA:Option Addr} {vs:List (Int×Int)} {vc:Nat} {t:Option Addr} {p:Nat} {l:List (Int×Int)} {ζ:List Th} {we:World} (k:Nat) (e:DY) (he:d.rts[k]?=some e) {h:List Int} (hH:xB e.2.2.2.2.2 h) (hI:∀x∈e.2.2.2.2.2,Sr d vs x/\1<=x.1/\x.1<=20) (hJ:JI e.2.2.2.2.2) (s1:e.2.2.2.2.2.length<=4294967280) (χ:Jg w m d) (hv:∀u,Below (U w) w u->AY (U w) u ζ->HV u vA vs) (M:Ef w m d g vA vs vc t p l ζ we) :
  Calls Tryz.prog 34 ([Z g,J (k:Int)]:List Value).toArray we λen w'=>en=.returned (.tuple #[D (BD ((Bh d vs e.2.2.2.2.2).1.1,(Bh d vs e.2.2.2.2.2).1.2.1)),J ((Bh d vs e.2.2.2.2.2).2:Nat),J (Bh d vs e.2.2.2.2.2).1.2.2])/\∃kA' kc' l',Ef w m d g vA vs vc kA' kc' l' ζ w':=by
 refine AS (fn:=Tryz.f34) (c:=Sf) (n:=74) ?_;have K1:Wk w we [Cd m d g vA vs.length vc t l.length p] [CP t p l] ζ:=⟨M.B,M.H⟩;clear M;refine Bn Aa eG [Cd m d g vA vs.length vc none 0 0,N (U we) [J 0,J 0] 47] K1 [(0,7),(0,3)] λw1 K2=>?_;have K3:Wk w w1 [Cd m d g vA vs.length vc none 0 0,N (U we) [J 0,J 0] 47] [CP none 0 []] ζ:=(K2.pk [0,1] [] (M':=[Cd m d g vA vs.length vc none 0 0,N (U we) [J 0,J 0] 47]) (L':=[])).addNil 47 2 (λe r=>r=BD e);clear K1 K2;refine AX [(0,Z g),(4,Z (U we)),(7,J ((0:Nat):Int)),(20,V m.rA d.rts.length m.rc),(21,J (k:Int))] λE1=>?_;have m0:k<d.rts.length:=(List.getElem?_eq_some_iff.1 he).1;obtain⟨gr,fr,hA,f1,v0⟩:=χ.rts.all (by omega);obtain⟨A1,c1,hr,hx⟩:=v0 k e he;rw[hA];refine Aw (g:=gr) (off:=fr) (cap:=m.rc) (sz:=6) (k:=k) (len:=d.rts.length) (some 22) m0 Tryz.underlying31 ?_;refine Ao Od uY K3 [] λw2 K4=>?_;refine EF 48 gr (fr+k*6+5) (V A1 e.2.2.2.2.2.length c1) (some 24) (Aj hr f1 K4.B 5 _ rfl) ?_;generalize hcs:e.2.2.2.2.2=cs at *
 refine AC OU K4 [] λw3 K5=>?_;refine AX [(0,Z g),(4,Z (U we)),(7,J ((0:Nat):Int)),(8,V A1 cs.length c1),(9,J ((0:Nat):Int))] λE2=>?_;have d1:=K5.B.size;refine Bp (by kernel_rfl) (λE wx=>∃(f i s:Nat) (rs:List (Int×Int)) (t:Option Addr) (p:Nat) (E0:Nat->Value),i<=cs.length/\cs.length<f+i/\s<=i/\(rs.length:Int)=h.getD i default/\Bh d vs cs=Fk d vs cs f i rs s/\E=BN E0 [(0,Z g),(4,Z (U we)),(7,J (s:Int)),(8,V A1 cs.length c1),(9,J (i:Int))]/\Wk w wx [Cd m d g vA vs.length vc t rs.reverse.length p,N (U we) [J 0,J 0] 47] [CP t p rs.reverse] ζ) (λE _=>cs.length-AP (E 9)) ⟨cs.length+1,0,0,[],none,0,E2,Nat.zero_le _,by omega,Nat.le_refl _,hH.start.symm,rfl,rfl,K5⟩ ?_;clear K3 K4 K5;rintro E wx ⟨f,i,s,rs,t,p,E0,hi,hf,hs,g0,a,rfl,K1⟩ b0;obtain⟨f,rfl⟩:∃f',f=f'+1:=⟨f-1,by omega⟩;refine AC UM K1 [] λw4 K4=>?_;refine AH (decide ((i:Int)<(cs.length:Int))) (λc5=>?_) (λc5=>?_)
 ·have m0:i<cs.length:=by have:=of_decide_eq_true c5;omega
  obtain⟨x,a0⟩:∃e,cs[i]?=some e:=⟨_,getElem?_eq_getElem m0⟩;have hS:=hH.step i x a0;have hT:=HS hJ (by omega) a0;obtain⟨h1,i1,x0⟩:=hI x (mem_of_getElem? a0);have w0:rs.length<=64:=by have:=hH.cap i;omega
  rw[S1 a0]at a;obtain⟨gc,fc,rfl,g1,r0⟩:=hx.all (by omega);refine Ao Aa uX K4 [] λw6 K6=>?_;refine Aw (g:=gc) (off:=fc) (cap:=c1) (sz:=6) (k:=i) (len:=cs.length) (some 33) m0 Tryz.underlying48 ?_;refine Bd 130 gc (fc+i*6) (FR x) (some 34) (Aj (r0 i x a0) g1 K6.B) ?_;refine An uW [Cd m d g vA vs.length vc t rs.reverse.length p,N (U we) [J 0,J 0] 47,N (U w6) (FR x) 130] K6 [(2,0),(2,0)] λw7 K7=>?_;clear K1 K4;refine AH (x.1==16) (λi0=>?_) (λi0=>?_)
  ·have ho:x.1=16:=by simpa using i0
   obtain⟨j,hj⟩:∃j:Nat,x.2.1=j:=⟨x.2.1.toNat,by have:=hJ i x a0 (.inl ho);omega⟩;have e1:=hJ i x a0 (.inl ho);have e0:BZ i x=[j]:=by unfold BZ Do;rw[ho,hj];rfl
   have hh:=hS.next j (by rw[e0];simp)
   rw[ho]at hh;refine AC (Ab OU) K7 [(2,1)] λw8 K8=>?_;refine AX [(0,Z g),(4,Z (U we)),(7,J (IntKind.i64.wrap ((s:Int)+1))),(8,V (some ⟨gc,fc,none⟩) cs.length c1),(9,J x.2.1)] λE8=>?_;rw[Bs s (by omega),hj];refine b0 _ _ ⟨f,j,s+1,rs,t,p,E8,by omega,by omega,by omega,?_,?_,rfl,K8.pk [0,1] [0]⟩ ?_
   ·rw[hh,g0];show _=h.getD i default-0+0;omega
   ·rw[a,i0,hj];rfl
   show cs.length-AP (J (j:Int))<cs.length-AP (J (i:Int));simp only[AP];omega
  rw[i0,cond_false]at a;refine AC eF K7 [] λw8 K8=>?_;refine AH (x.1==17) (λh0=>?_) (λh0=>?_)
  ·have ho:x.1=17:=by simpa using h0
   rw[h0,cond_true]at a;obtain⟨j,hj⟩:∃j:Nat,x.2.1=j:=⟨x.2.1.toNat,by have:=hJ i x a0 (.inr ho);omega⟩;have e1:=hJ i x a0 (.inr ho);have e0:BZ i x=[i+1,j]:=by unfold BZ Do;rw[ho,hj,IntWalk.i64_in ((i:Int)+1) (by omega)];rfl
   have q0:=hS.next (i+1) (by rw[e0];simp)
   have p0:=hS.next j (by rw[e0];simp)
   have d0:=hS.takes;rw[ho]at q0 p0 d0;replace q0:h.getD (i+1) default=h.getD i default-1+0:=q0;replace p0:h.getD j default=h.getD i default-1+0:=p0;replace d0:1<=h.getD i default:=d0
   cases rs with
   | nil=>rw[<-g0]at d0;exact absurd d0 (by decide)
   | cons b rs=>
   rw[reverse_cons]at K8;rw[length_cons]at g0 w0;refine AC uV K8 [] λw9 K9=>?_;refine BL (Iw (by rw[length_reverse];omega) ⟨K9.B,K9.lend⟩) λen j0 hh=>?_;obtain⟨rfl,M3⟩:=hh;refine⟨_,rfl,?_⟩;have c0:=Wk.unlend M3.B M3.H;refine AC AE9 c0 [] λa1 k0=>?_;refine AH (b.1==0) (λcb=>?_) (λcb=>?_)
   ·refine AC (Ab OU) k0 [(2,1)] λl0 o=>?_;refine AX [(0,Z g),(4,Z (U we)),(7,J (IntKind.i64.wrap ((s:Int)+1))),(8,V (some ⟨gc,fc,none⟩) cs.length c1),(9,J x.2.1)] λE8=>?_;rw[Bs s (by omega),hj];refine b0 _ _ ⟨f,j,s+1,rs,t,p,E8,by omega,by omega,by omega,by omega,?_,rfl,o.pk [0,1] [0]⟩ ?_
    ·rw[a,show((b::rs).getD 0 default).1==0 from cb,hj];rfl
    show cs.length-AP (J (j:Int))<cs.length-AP (J (i:Int));simp only[AP];omega
   refine AC (Ab OU) k0 [] λl0 o=>?_;refine AX [(0,Z g),(4,Z (U we)),(7,J (IntKind.i64.wrap ((s:Int)+1))),(8,V (some ⟨gc,fc,none⟩) cs.length c1),(9,J (IntKind.i64.wrap ((i:Int)+1)))] λE8=>?_;rw[Bs s (by omega),Bs i (by omega)];refine b0 _ _ ⟨f,i+1,s+1,rs,t,p,E8,by omega,by omega,by omega,by omega,?_,rfl,o.pk [0,1] [0]⟩ ?_
   ·rw[a,show(((b::rs).getD 0 default).1==0)=false from cb];rfl
   show cs.length-AP (J ((i+1:Nat):Int))<cs.length-AP (J (i:Int));simp only[AP];omega
  rw[h0,cond_false]at a;have l1:x.1≠16:=by simpa using i0
  have k1:x.1≠17:=by simpa using h0
  have e0:BZ i x=[i+1]:=by unfold BZ Do;rw[i0,h0,IntWalk.i64_in ((i:Int)+1) (by omega)];rfl
  have hh:=hS.next (i+1) (by rw[e0];simp)
  have d0:=hS.takes;refine AC uU K8 [(2,0)] λw9 K9=>?_;refine BL (ACa x χ h1 (λu B H=>hv u B H.behind) i1 x0 l1 k1 w0 (by omega) ⟨K9.B,K9.lend⟩) λen j0 hh=>?_;obtain⟨rfl,M3⟩:=hh;refine⟨_,rfl,?_⟩;have c0:=Wk.unlend M3.B M3.H;have o1:(Af x.1).2=1:=by
   obtain h | h | h | h | h | h | h | h | h | h | h | h | h | h | h | h | h | h:x.1=1\/x.1=2\/x.1=3\/x.1=4\/x.1=5\/x.1=6\/x.1=7\/x.1=8\/x.1=9\/x.1=10\/x.1=11\/x.1=12\/x.1=13\/x.1=14\/x.1=15\/x.1=18\/x.1=19\/x.1=20:=by omega
   all_goals (rw[h];rfl)
  have n1:=(JL x.1).1;generalize Jt d vs x rs=r at a c0 ⊢;generalize hrd:rs.drop (Af x.1).1.toNat=rd at a c0;have r1:(rd.length:Int)=(rs.length:Int)-(Af x.1).1:=by rw[<-hrd,length_drop];omega
  refine An WX [Cd m d g vA vs.length vc t rd.reverse.length p,N (U we) [J 0,J 0] 47,N (U w6) (FR x) 130,N (U j0) [J r.1,J r.2.1] 47] c0 [(3,0)] λa1 k0=>?_;refine AH (!(r.2.2==0)) (λcr=>?_) (λcr=>?_)<;>rw[cr]at a
  ·refine Ar AAz k0 [(1,0)] λl0 o=>?_;refine AN o (1,0) (.tuple #[D [J 0,J 0],J 0,J r.2.2]) ⟨by rw[a];rfl,t,p,rd.reverse,o.B,(o.pk [0] [0] (M':=[Cd m d g vA vs.length vc t rd.reverse.length p]) (L':=[CP t p rd.reverse])).H⟩
  rw[cond_false]at a;refine Al 13 ky k0 [] λl0 o=>?_;refine AC0 (γ:=Option Addr×Nat) o (mem:=[Cd m d g vA vs.length vc t rd.reverse.length p,N (U j0) [J r.1,J r.2.1] 47]) 7 0 [0,1,2,3,4,5] 6 (λq=>φ q 1 1) 47 (BD (r.1,r.2.1)) [(4,0,7),(5,1,0)] [] 7 (λy=>V y.1 (rd.reverse++[(r.1,r.2.1)]).length y.2) (λy=>[CP y.1 y.2 (rd.reverse++[(r.1,r.2.1)])]) [(8,0,0),(9,0,0),(10,0,7)] (λq y=>[Cd m d g vA vs.length vc y.1 (rd.reverse++[(r.1,r.2.1)]).length y.2,N (U we) [J 0,J 0] 47,N (U w6) (FR x) 130,N (U j0) [J r.1,J r.2.1] 47,N q (BD (r.1,r.2.1)) 47]) (λy hy=>by
   simp only[mem_cons,not_mem_nil,or_false]at hy;rcases hy with rfl | rfl
   ·exact o.ent 0 rfl
   exact o.ent 3 rfl) (λv hv sp b1=>by cases b1) (λu q Ku=>?_) λq y z q1 m1=>?_
  ·obtain⟨A',c',u',hx,Hn,b2⟩:=Mh Ku.H (Ku.ix 0) (Ku.at 0 rfl) (r.1,r.2.1) (BD (r.1,r.2.1)) rfl q (Ku.ent 4 rfl) ((Ay (Ak ky) 7 0).getD 7 default) (.tmp 53) (.tmp 55) 45 (by kernel_rfl) (by kernel_rfl) (by kernel_rfl) (by decide) (by kernel_rfl) (by kernel_rfl) rfl rfl (by rw[length_reverse];omega);exact⟨(A',c'),u',hx,Ku.put 0 (by simp) b2 Hn⟩
  refine AC (Ab OU) m1 [] λp1 z0=>?_;refine AX [(0,Z g),(4,Z (U we)),(7,J (IntKind.i64.wrap ((s:Int)+1))),(8,V (some ⟨gc,fc,none⟩) cs.length c1),(9,J (IntKind.i64.wrap ((i:Int)+1)))] λE8=>?_;rw[Bs s (by omega),Bs i (by omega)];rw[<-reverse_cons]at z0;refine b0 _ _ ⟨f,i+1,s+1,(r.1,r.2.1)::rd,y.1,y.2,E8,by omega,by omega,by omega,by rw[length_cons];omega,a,rfl,z0.pk [0,1] [0]⟩ ?_;show cs.length-AP (J ((i+1:Nat):Int))<cs.length-AP (J (i:Int));simp only[AP];omega
 have t0:i=cs.length:=by have:=of_decide_eq_false c5;omega
 rw[W5 (by rw[t0];exact getElem?_eq_none (Nat.le_refl _))]at a;rw[t0,hH.stop]at g0
 cases rs with
 | nil=>exact absurd g0 (by decide)
 | cons b rs=>
 rw[reverse_cons]at K4;rw[length_cons]at g0;refine AC kw K4 [] λw9 K9=>?_;refine BL (Iw (by rw[length_reverse];omega) ⟨K9.B,K9.lend⟩) λen j0 hh=>?_;obtain⟨rfl,M3⟩:=hh;refine⟨_,rfl,?_⟩;have c0:=Wk.unlend M3.B M3.H;refine Ar AAy c0 [(1,0)] λl0 o=>?_;exact AN o (1,0) (.tuple #[D (BD b),J (s:Int),J 0]) ⟨by rw[a];rfl,t,p,rs.reverse,o.B,(o.pk [0] [0] (M':=[Cd m d g vA vs.length vc t rs.reverse.length p]) (L':=[CP t p rs.reverse])).H⟩
end
end Go.Proofs.YtkpemkkbjfbmaaaGreat
namespace Go.Proofs.YtkpemkkbjfbmaaaGreat
open List
noncomputable section
open Go.RowKit
set_option maxRecDepth 100000
set_option maxHeartbeats 1000000
theorem Hb {c a:Bool} (h:cond c a false=true):c=true/\a=true:=by
 cases c
 ·cases h
 exact⟨rfl,h⟩
theorem LC {c:Bool} (h:(!c)=false):c=true:=by
 cases c
 ·cases h
 rfl
theorem ML {c a:Bool} (h:cond c true a=false):c=false/\a=false:=by
 cases c
 ·exact⟨rfl,h⟩
 cases h
section
variable {ins:List (List UInt8)} {scs:List (List (Int×Int×Int))} {pas:List (List UInt8)} {rts:List DY}
structure So (ni ns np:Nat) (rts:List DY) (k:Nat) (e:DY):Prop where
 len:e.2.2.2.2.2.length<=4096
 rnd:Dw e.2.1 e.2.2.1 e.2.2.2.1 e.2.2.2.2.1=true
 bal:DJ e.2.2.2.2.2=true
 fields:∀(i:Nat) (x:AM),e.2.2.2.2.2[i]?=some x->Co x.1 x.2.2.1 x.2.2.2.1 x.2.2.2.2.1 x.2.2.2.2.2=true/\CW ni ns np rts k (i:Int) x.1 x.2.1=true
theorem wq {k:Nat} {b:Bool}:∀(cs:List AM) (i:Nat),DT ins scs pas rts k b cs i=true->b=true/\∀(j:Nat) (x:AM),cs[j]?=some x->Co x.1 x.2.2.1 x.2.2.2.1 x.2.2.2.2.1 x.2.2.2.2.2=true/\CW ins.length scs.length pas.length rts k ((i+j:Nat):Int) x.1 x.2.1=true
 | [],_,h=>⟨by rw[DT]at h;exact h,λj x hx=>by cases hx⟩
 | y::cs,i,h=>by
  rw[DT]at h;obtain⟨f,h2⟩:=Jb h;obtain⟨e,d⟩:=ML f;obtain⟨c,a⟩:=wq cs (i+1) h2;refine⟨c,λj x hx=>?_⟩
  cases j with
  | zero=>
   obtain rfl:=Option.some.inj hx;exact⟨LC e,LC d⟩
  | succ j=>
   have:=a j x hx;rw[Nat.add_assoc,Nat.add_comm 1 j]at this;exact this
theorem ws:∀(es:List DY) (k:Nat),C3 ins scs pas rts es k=true->∀(j:Nat) (e:DY),es[j]?=some e->So ins.length scs.length pas.length rts (k+j) e
 | [],_,_,j,e,he=>by cases he
 | y::es,k,h,j,e,he=>by
  rw[C3]at h;obtain⟨l,h2⟩:=Jb h;obtain⟨g,f⟩:=ML l;obtain⟨d,c⟩:=wq y.2.2.2.2.2 0 h2;obtain⟨b,a⟩:=Jb d
  cases j with
  | zero=>
   obtain rfl:=Option.some.inj he;have:=of_decide_eq_false g;exact⟨by omega,LC f,LC b,λi x hx=>by have:=c i x hx;rw[Nat.zero_add]at this;exact this⟩
  | succ j=>
   have:=ws es (k+1) a j e he;rw[Nat.add_assoc,Nat.add_comm 1 j]at this;exact this
theorem wt:∀(ss:List (List (Int×Int×Int))),De ins scs pas rts ss=true->C3 ins scs pas rts rts 0=true/\∀s∈ss,Eg s=true
 | [],h=>⟨by rw[De]at h;exact h,λ_ h=>by cases h⟩
 | s::ss,h=>by
  rw[De]at h;obtain⟨c,h2⟩:=Jb h;obtain⟨b,a⟩:=wt ss h2;refine⟨b,λt ht=>?_⟩;rcases mem_cons.1 ht with rfl | ht
  ·exact LC c
  exact a t ht
theorem Rr (h:Cc ins scs pas rts=true):rts.length<=128/\(∀s∈scs,Eg s=true)/\∀(k:Nat) (e:DY),rts[k]?=some e->So ins.length scs.length pas.length rts k e:=by unfold Cc at h;obtain⟨d,h2⟩:=Jb h;obtain⟨_,c⟩:=ML d;have:=of_decide_eq_false c;obtain⟨b,a⟩:=wt scs h2;exact⟨by omega,a,λk e he=>by have:=ws rts 0 b k e he;rw[Nat.zero_add]at this;exact this⟩
end
theorem KU {a:Int} {n:Nat} (h:Dq a (n:Int)=true):∃k:Nat,a=k/\k<n:=by unfold Dq at h;obtain⟨b,h2⟩:=Hb h;have b:=of_decide_eq_true b;have h2:=of_decide_eq_true h2;exact⟨a.toNat,by omega,by omega⟩
theorem So.run {d:EA} {k:Nat} {e:DY} {vs:List (Int×Int)} (h:So d.ins.length d.scs.length d.pas.length d.rts k e) (he:d.rts[k]?=some e) (l:k<=vs.length):JI e.2.2.2.2.2/\(∃hs,xB e.2.2.2.2.2 hs)/\∀x∈e.2.2.2.2.2,Sr d vs x/\1<=x.1/\x.1<=20:=by
 have hg:(d.rts.getD k default).2.2.2.2.2=e.2.2.2.2.2:=by rw[getD_eq_getElem?_getD,he];rfl
 have hv:∀(i:Nat) (x:AM),e.2.2.2.2.2[i]?=some x->CW d.ins.length d.scs.length d.pas.length d.rts k (i:Int) x.1 x.2.1=true:=λi x hx=>(h.fields i x hx).2;have f:JI e.2.2.2.2.2:=λi x hx ho=>by have:=hv i x hx;unfold CW at this;rw[hg]at this;rcases ho with ho | ho<;>rw[ho]at this<;>simp at this<;>omega
 refine⟨f,xv f (by have:=h.len;omega) h.bal,λx hx=>?_⟩;obtain⟨i,hi⟩:=getElem?_of_mem hx;have:=hv i x hi;unfold CW at this;refine⟨⟨λho=>?_,λho=>?_,λho=>?_,λho=>?_⟩,?_⟩
 ·rw[ho]at this;exact KU this
 ·rw[ho]at this;obtain⟨j,b,h2⟩:=KU (n:=k) this;exact⟨j,b,by omega⟩
 ·rw[ho]at this;exact KU this
 ·rcases ho with ho | ho<;>(rw[ho]at this;exact KU this)
 by_cases h20:1<=x.1/\x.1<=20
 ·exact h20
 exfalso;have a:∀c:Int,1<=c/\c<=20->(x.1==c)=false:=λc hc=>by simp;omega
 rw[a 2 (by decide),a 4 (by decide),a 19 (by decide),a 20 (by decide),a 3 (by decide),a 16 (by decide),a 17 (by decide)]at this;simp only[cond_false]at this;obtain⟨b,_⟩:=Hb this;obtain⟨h2,g⟩:=Hb b;exact h20 ⟨of_decide_eq_true h2,of_decide_eq_true g⟩
attribute [local irreducible] BI BQ AD AE AG Au Ab AO A8 Bi Ct BX EE EH DW BO At Fr
abbrev Fc (m:HP) (d:EA):List Value:=[V m.iA d.ins.length m.ic,V m.sA d.scs.length m.sc,V m.pA d.pas.length m.pc,V m.rA d.rts.length m.rc]
theorem Sw {w:World} {m:HP} {d:EA} (χ:Jg w m d) (a:∀e∈d.rts,e.2.2.2.2.2.length<=4294967296) (u:World) (B:Below (U w) w u):Calls Tryz.prog 33 ([D (Fc m d)]:List Value).toArray u λe w'=>e=.returned (I (Cc d.ins d.scs d.pas d.rts))/\Below (U u) u w':=
 Ts m.iA d.ins m.ic m.sA d.scs m.sc m.pA d.pas m.pc m.rA d.rts m.rc u (χ.ins.below B) χ.insL (χ.scs.below B) χ.scsL (χ.pas.below B) χ.pasL (χ.rts.below B) χ.rtsL χ.scsE a
noncomputable def ah:Code:=Tryz.f11.body.getD .skip
def ui:=ν [.code ah]
def uh:=Ψ ui
def ug:=Ac 3 (AG uh)
def uf:=Ω ug
def eL:=Ξ uf
def ue:=AB (Aq IV 90 (AG eL)) (AG eL)
def eK:=Ψ ue
def UP:=ν (Au eK)
def ud:=AB (Aq Aa 90 (AE UP)) (AE UP)
def uc:=ν (AD (AD ud))
def AA4:=Ψ uc
def lE:=Ξ UP
def AA3:=Ψ lE
theorem TJ {w:World} {m:HP} {d:EA} {vA:Option Addr} {vs:List (Int×Int)} {vc:Nat} (χ:Jg w m d) (hC:Cc d.ins d.scs d.pas d.rts=true) (k:Nat) (e:DY) (he:d.rts[k]?=some e) (a0:HV w vA vs) (hl:vs.length=k) (hc:vs.length<=vc) (e0:∀a,vA=some a->a.spot=none) (b0:∀v∈vs,AV v.1 v.2=true) :
  Calls Tryz.prog 11 ([D (Fc m d),J (k:Int),V m.nA d.inp.length m.nc,V m.hA d.past.length m.hc,V vA vs.length vc]:List Value).toArray w λen w'=>en=.returned (.tuple #[D (BD ((Bh d vs e.2.2.2.2.2).1.1,(Bh d vs e.2.2.2.2.2).1.2.1)),J ((Bh d vs e.2.2.2.2.2).2:Nat),J (Bh d vs e.2.2.2.2.2).1.2.2])/\Below (U w) w w':=by
 obtain⟨k0,q0,f⟩:=Rr hC;have r0:k<d.rts.length:=(List.getElem?_eq_some_iff.1 he).1;obtain⟨hJ,⟨hs,hH⟩,hI⟩:=(f k e he).run (vs:=vs) he (by omega);refine AS (fn:=Tryz.f11) (c:=ah) (n:=58) ?_;refine An ui [N (U w) (Fc m d) 33,N (U w+1) [J 0,J 0] 47] (Wk.start w) [(0,0)] λw1 K1=>?_;refine AW K1 (args:=[D (Fc m d)]) (Sw χ (λe he=>by obtain⟨i,hi⟩:=getElem?_of_mem he;have:=(f i e hi).len;omega) w1 K1.B) λw2 K2=>?_;rw[hC];refine AC uh K2 [] λw3 K3=>?_;refine AH false (λh=>by cases h) (λ_=>?_);refine Al 3 ug K3 [] λw4 y=>?_;refine Ap y [(5,0,3)] [] y.G (λsp g0=>by cases g0) λw5 E5 K5=>?_;refine AC uf K5 [] λw6 q=>?_;refine AH (cond (decide ((k:Int)<0)) true (decide ((d.rts.length:Int)<=(k:Int)))) (λh=>?_) (λ_=>?_)
 ·rw[decide_eq_false (by omega),decide_eq_false (by omega)]at h;cases h
 refine AC eL q [] λw7 p=>?_;refine AH (decide ((vs.length:Int)<(k:Int))) (λh=>?_) (λ_=>?_)
 ·rw[decide_eq_false (by omega)]at h;cases h
 refine Ao IV ue p [] λw8 s=>?_;refine EW (Lm (t:=45) (x:=.tmp 35) (h:=.tmp 36) (a:=vA) (len:=vs.length) (cap:=vc) (i:=k) (by kernel_rfl) Tryz.underlying45 (by decide) (by kernel_rfl) (by kernel_rfl) (by omega) e0) ?_;refine AC eK s [] λw9 o=>?_;refine AX [(1,J (k:Int)),(2,V m.nA d.inp.length m.nc),(3,V m.hA d.past.length m.hc),(4,V vA vs.length vc),(5,Z (U w)),(10,Z (U w+1)),(37,V vA k vc),(38,J (k:Int)),(39,J ((0:Nat):Int))] λE9=>?_;refine Bp (by kernel_rfl) (λE wx=>∃(i:Nat) (E0:Nat->Value),i<=k/\E=BN E0 [(1,J (k:Int)),(2,V m.nA d.inp.length m.nc),(3,V m.hA d.past.length m.hc),(4,V vA vs.length vc),(5,Z (U w)),(10,Z (U w+1)),(37,V vA k vc),(38,J (k:Int)),(39,J (i:Int))]/\Wk w wx [N (U w) (Fc m d) 33,N (U w+1) [J 0,J 0] 47] [] []) (λE _=>k-AP (E 39)) ⟨0,E9,Nat.zero_le _,rfl,o⟩ ?_;clear K1 K2 K3 y K5 q p s o;rintro E wx ⟨i,E0,hi,rfl,K1⟩ j;refine AC UP K1 [] λw4 y=>?_;refine AH (decide ((i:Int)<(k:Int))) (λc5=>?_) (λc5=>?_)
 ·have c0:i<k:=by have:=of_decide_eq_true c5;omega
  obtain⟨x,z⟩:∃e,vs[i]?=some e:=⟨_,getElem?_eq_getElem (by omega)⟩;have d0:=b0 x (mem_of_getElem? z);obtain⟨gv,fv,rfl,h0,b⟩:=a0.all (by omega);refine Ao Aa ud y [] λw6 q=>?_;refine Aw (g:=gv) (off:=fv) (cap:=vc) (sz:=2) (k:=i) (len:=k) (some 41) c0 Tryz.underlying45 ?_;refine Bd 47 gv (fv+i*2) (BD x) (some 42) (Aj (b i x z) h0 q.B) ?_;refine An uc [N (U w) (Fc m d) 33,N (U w+1) [J 0,J 0] 47,N (U w6) (BD x) 47] q [(2,0),(2,0)] λw7 p=>?_;refine AW p (args:=[D (BD x)]) (Bw x.1 x.2 w7) λw8 s=>?_;rw[d0];refine AC AA4 s [] λw9 o=>?_;refine AH false (λh=>by cases h) (λ_=>?_);refine AC (Ab eK) o [] λl0 i0=>?_;refine AX [(1,J (k:Int)),(2,V m.nA d.inp.length m.nc),(3,V m.hA d.past.length m.hc),(4,V (some ⟨gv,fv,none⟩) vs.length vc),(5,Z (U w)),(10,Z (U w+1)),(37,V (some ⟨gv,fv,none⟩) k vc),(38,J (k:Int)),(39,J (IntKind.i64.wrap ((i:Int)+1)))] λj0=>?_;rw[Bs i (by omega)];refine j _ _ ⟨i+1,j0,c0,rfl,i0.pk [0,1] []⟩ ?_;show k-AP (J ((i+1:Nat):Int))<k-AP (J (i:Int));simp only[AP];omega
 refine An lE [N (U w) (Fc m d) 33,N (U w+1) [J 0,J 0] 47,Cd m d (U w4) vA vs.length vc none 0 0] y [(0,0),(2,0)] λw6 q=>?_;have p:Wk w w6 (Cd m d (U w4) vA vs.length vc none 0 0::[N (U w) (Fc m d) 33,N (U w+1) [J 0,J 0] 47]) [CP none 0 []] []:=(q.pk [2,0,1] [] (M':=[Cd m d (U w4) vA vs.length vc none 0 0,N (U w) (Fc m d) 33,N (U w+1) [J 0,J 0] 47]) (L':=[])).addNil 47 2 (λe r=>r=BD e);refine BL (YH (l:=[]) k e he hH hI hJ (by have:=(f k e he).len;omega) χ (λu B _=>Cn.below a0 B) ⟨p.B,p.lend⟩) λen w7 hh=>?_;obtain⟨rfl,p0,m0,l',M8⟩:=hh;refine⟨_,rfl,?_⟩;have s:=Wk.unlend M8.B M8.H;refine Ar AA3 s [(2,0)] λw8 o=>?_;exact AN o (2,0) (.tuple #[D (BD ((Bh d vs e.2.2.2.2.2).1.1,(Bh d vs e.2.2.2.2.2).1.2.1)),J ((Bh d vs e.2.2.2.2.2).2:Nat),J (Bh d vs e.2.2.2.2.2).1.2.2]) ⟨rfl,o.B⟩
end
end Go.Proofs.YtkpemkkbjfbmaaaGreat
namespace Go.Proofs.YtkpemkkbjfbmaaaGreat
open List
noncomputable section
open Go.RowKit
set_option maxRecDepth 100000
set_option maxHeartbeats 1000000
theorem bn {x:Int} (h:(!(x==0))=true):x≠0:=by simpa using h
theorem LZ {n d:Int} (e:1<=d) (h2:d<=1000000) (c:-1000000000000<=n) (b:n<=1000000000000) (a:Nat.gcd n.natAbs d.natAbs=1):AV n d=true:=decide_eq_true ⟨e,h2,c,b,a⟩
theorem H1 {n d:Int} (h:AV n d=true):Nat.gcd n.natAbs d.natAbs=1:=(of_decide_eq_true h).2.2.2.2
def GJ (r:Int×Int×Int):Prop:=r.2.2=0->AV r.1 r.2.1=true
theorem Di {a b e:Int} (h:e≠0):GJ (a,b,e):=λc=>absurd c h
theorem Dx {c:Bool} {a b:Int×Int×Int} (ha:GJ a) (hb:GJ b):GJ (cond c a b):=by cases c<;>assumption
theorem Zd (neg:Bool) (n d:Nat) (hd:0<d):GJ (LR neg n d):=by
 unfold LR
 cases h:(decide (1000000000000<n/Nat.gcd n d)||decide (1000000<d/Nat.gcd n d))
 ·intro _;rw[Bool.or_eq_false_iff,decide_eq_false_iff_not,decide_eq_false_iff_not]at h;have hg:0<Nat.gcd n d:=Nat.gcd_pos_of_pos_right n hd;have b:0<d/Nat.gcd n d:=Nat.div_pos (Nat.le_of_dvd hd (Nat.gcd_dvd_right n d)) hg;have hc:Nat.gcd (n/Nat.gcd n d) (d/Nat.gcd n d)=1:=by rw[Nat.gcd_div (Nat.gcd_dvd_left n d) (Nat.gcd_dvd_right n d),Nat.div_self hg]
  show AV (cond neg (-((n/Nat.gcd n d:Nat):Int)) ((n/Nat.gcd n d:Nat):Int)) ((d/Nat.gcd n d:Nat):Int)=true;generalize n/Nat.gcd n d=a at *
  generalize d/Nat.gcd n d=c at *
  cases neg
  ·exact LZ (by omega) (by omega) (by show _<=(a:Int);omega) (by show(a:Int)<=_;omega) (by simpa using hc)
  exact LZ (by omega) (by omega) (by show _<=-(a:Int);omega) (by show -(a:Int)<=_;omega) (by simpa using hc)
 exact Di (by decide)
theorem Oa (n d:Int):GJ (F6 n d):=by
 unfold F6
 cases h:d==0
 ·have:d≠0:=by simpa using h
  exact Zd _ _ _ (by omega)
 exact Di (by decide)
theorem PK {a b:Nat} (h:0<a):0<a/Nat.gcd b a:=Nat.div_pos (Nat.le_of_dvd h (Nat.gcd_dvd_right b a)) (Nat.gcd_pos_of_pos_right b h)
theorem PC (neg:Bool) (d b c a:Nat) (e:0<b) (h2:0<a):GJ (GY neg d b c a):=by unfold GY;refine Dx (Zd _ _ _ (Nat.mul_pos (PK e) (PK h2))) (Di (by decide))
theorem wv {a b c d:Int} (h:(cond (!(AV a b)) true (!(AV c d)))=false):AV a b=true/\AV c d=true:=by cases h1:AV a b<;>cases h2:AV c d<;>rw[h1,h2]at h<;>first | exact⟨rfl,rfl⟩ | cases h
theorem Mq {a b c d:Int} {r:Int×Int×Int} (h:AV a b=true->AV c d=true->GJ r):GJ (cond (cond (!(AV a b)) true (!(AV c d))) (0,0,1) r):=by
 cases hb:cond (!(AV a b)) true (!(AV c d))
 ·exact h (wv hb).1 (wv hb).2
 exact Di (by decide)
theorem XY (all:List NU) (a c:Int):∀(l:List NU) (i:Nat) (b:Int),all.length=i+l.length->b<(all.length:Int)->ID all a c l i b<(all.length:Int)
 | [],_,_,_,h=>h
 | e::tl,i,b,hl,h=>by
  rw[ID];refine XY all a c tl (i+1) _ (by rw[hl,length_cons];omega) ?_
  cases (cond (decide (Ev e.1 1 a c<=0)) (cond (decide (b<0)) true (decide ((all.getD b.toNat default).1<e.1))) false)
  ·exact h
  show(i:Int)<_;rw[hl,length_cons];omega
theorem gR (es:List NU) (a c:Int):GJ (Ix es a c):=by
 unfold Ix;refine Dx (Di (by decide)) (Dx (Di (by decide)) ?_)
 cases hb:es.any Sj
 ·show GJ (Ob es (ID es a c es 0 (-1)));unfold Ob;have e:=XY es a c es 0 (-1) (by simp) (by omega);generalize ID es a c es 0 (-1)=b at e ⊢
  cases hc:decide (b<0)
  ·intro _;have f:¬b<0:=of_decide_eq_false hc;have d:b.toNat<es.length:=by omega
   have hm:es.getD b.toNat default∈es:=DR d;have:=(any_eq_false.1 hb) _ hm;unfold Sj at this;show AV (es.getD b.toNat default).2.1 (es.getD b.toNat default).2.2=true
   cases hv:AV (es.getD b.toNat default).2.1 (es.getD b.toNat default).2.2
   ·rw[hv]at this;exact absurd rfl this
   rfl
  exact Di (by decide)
 exact Di (by decide)
theorem Zi (a b c d:Int):GJ (L3 a b c d):=Mq λe h2=>by
 have:=Bt e;have:=Bt h2
 cases hc:c==0
 ·have:c≠0:=by simpa using hc
  exact PC _ _ _ _ _ (by omega) (by omega)
 exact Di (by decide)
theorem ACv {e:Int} (h:(!(e==0))=true) (a b:Int):GJ (a,b,e):=Di (bn h)
theorem XT (n:Nat):∀(l:List (Int×Int)) (s:Int×Int),GJ (JE n l s)
 | [],s=>Zi _ _ _ _
 | e::tl,s=>by
  rw[JE]
  cases hc:!((FL s.1 s.2 e.1 e.2).2.2==0)
  ·exact XT n tl _
  exact ACv hc _ _
theorem TH {a b:Int}:GJ (cond (!(AV a b)) (0,0,1) (a,b,0)):=by
 cases hv:AV a b
 ·exact Di (by decide)
 exact λ_=>hv
theorem Nm (a b c d m:Int):GJ (Ds a b c d m):=Dx (Di (by decide)) (Dx (Di (by decide)) (Oa _ _))
theorem ZA (l:List IY) (nm:List UInt8) (n:Int):GJ (Hv l nm n):=by
 unfold Hv;refine Dx (Di (by decide)) (Dx (Di (by decide)) ?_);unfold RV;refine Dx (Di (by decide)) (Dx (Di (by decide)) ?_)
 cases (Dt nm l).1.take n.toNat with
 | nil=>exact Di (by decide)
 | cons x tl=>exact XT _ tl x
theorem qh (l:List IY) (nm:List UInt8) (n:Int):GJ (Mx l nm n):=Dx (Di (by decide)) (Dx (Di (by decide)) TH)
theorem RR (nm:List UInt8):∀l:List Dz,GJ (FP nm l)
 | []=>Di (by decide)
 | e::l=>by rw[FP];exact Dx TH (RR nm l)
theorem RN (b:Bool):GJ ((D5 b).1,(D5 b).2,0):=λ_=>by cases b<;>decide
theorem xy (a b c d:Int):GJ (FL a b c d):=Mq λ_ _=>Oa _ _
theorem xd (a b c d:Int):GJ (PW a b c d):=Mq λ_ _=>Oa _ _
theorem xk (a b c d:Int):GJ (Pp a b c d):=Mq λf e=>by have:=Bt f;have:=Bt e;exact PC _ _ _ _ _ (by omega) (by omega)
theorem XV (o a b c d:Int) (e:AV a b=true) (h2:AV c d=true):GJ (DG o a b c d):=by
 have ha:GJ (a,b,0):=λ_=>e;have hc:GJ (c,d,0):=λ_=>h2;unfold DG
 repeat' (first | with_reducible exact xy _ _ _ _ | with_reducible exact xd _ _ _ _ | with_reducible exact xk _ _ _ _ | with_reducible exact Zi _ _ _ _ | with_reducible exact RN _ | with_reducible exact ha | with_reducible exact hc | exact Di (by decide) | with_reducible apply Dx)
theorem yK (d:EA) (x:AM) (b:Int×Int):GJ (iS d x b):=by
 unfold iS;refine Dx (gR _ _ _) (Dx ?_ (Dx (RN _) (Nm _ _ _ _ _)));unfold SM
 cases hv:AV b.1 b.2
 ·exact Di (by decide)
 intro _;have h:=Bt hv;exact LZ h.1 h.2.1 (by show _<=-b.1;omega) (by show -b.1<=_;omega) (by show Nat.gcd (-b.1).natAbs _=1;rw[Int.natAbs_neg];exact H1 hv)
theorem qg {d:EA} {vs:List (Int×Int)} {x:AM} (f:Sr d vs x) (a:Co x.1 x.2.2.1 x.2.2.2.1 x.2.2.2.2.1 x.2.2.2.2.2=true) (b:∀v∈vs,AV v.1 v.2=true):GJ (gV d vs x):=by
 unfold gV
 cases h1:x.1==1
 ·rw[cond_false];refine Dx (RR _ _) ?_
  cases h3:x.1==3
  ·rw[cond_false];exact Dx (ZA _ _ _) (qh _ _ _)
  obtain⟨k,e,c⟩:=f.val (by simpa using h3);rw[cond_true,e];exact λ_=>b _ (DR c)
 unfold Co at a;rw[h1]at a;obtain⟨a,_⟩:=Hb a;obtain⟨a,_⟩:=Hb a;rw[cond_true];exact λ_=>a
theorem ACb {d:EA} {vs:List (Int×Int)} {x:AM} {rs:List (Int×Int)} (f:Sr d vs x) (g:Co x.1 x.2.2.1 x.2.2.2.1 x.2.2.2.2.1 x.2.2.2.2.2=true) (b:∀v∈vs,AV v.1 v.2=true) (a:∀v∈rs,AV v.1 v.2=true) (ht:(Af x.1).1<=(rs.length:Int)):GJ (Jt d vs x rs):=by
 unfold Jt
 cases e:(Af x.1).1==0
 ·cases c:(Af x.1).1==1
  ·have e:(Af x.1).1≠0:=by simpa using e
   have c:(Af x.1).1≠1:=by simpa using c
   have h2:=(JL x.1).1;exact XV _ _ _ _ _ (a _ (DR (by omega))) (a _ (DR (by omega)))
  exact yK _ _ _
 exact qg f g b
attribute [local irreducible] BI BQ AD AE AG Au Ab AO A8 Bi Ct BX EE EH DW BO At Fr
theorem Wk.lend1 {w0 w:World} {e:Ax} {s:Th} {M:List Ax} {L T:List Th} (K:Wk w0 w (e::M) (s::L) T):AY (U w0) w ([Th.ent e,s]++(M.map Th.ent++(L++T))):=by have a:AY (U w0) w ((Th.ent e::M.map Th.ent)++([s]++(L++T))):=K.H;exact Wk.swap3 (X:=[s]) (η:=[Th.ent e]) (τ:=M.map Th.ent++(L++T)) (Wk.swap3 (X:=Th.ent e::M.map Th.ent) (η:=[s]) (τ:=L++T) a)
theorem Wk.unlend1 {w0 w:World} {e:Ax} {s:Th} {M:List Ax} {L T:List Th} (B:Below (U w0) w0 w) (h:AY (U w0) w ([Th.ent e,s]++(M.map Th.ent++(L++T)))):Wk w0 w (e::M) (s::L) T:=
 ⟨B,Wk.swap3 (X:=[s]) (η:=Th.ent e::M.map Th.ent) (τ:=L++T) (Wk.swap3 (X:=[Th.ent e]) (η:=[s]) (τ:=M.map Th.ent++(L++T)) h)⟩
abbrev F2:=List UInt8×(Int×Int)×Bool×Int
abbrev EY (o:F2):List Value:=[Y (o.1),J o.2.1.1,J o.2.1.2,I o.2.2.1,J o.2.2.2]
def GE (A:Option Addr) (c:Nat) (l:List F2):Th:=Th.row 54 5 (λe r=>r=EY e) A c l
def Fg (r:Int×Int):Int:=IntKind.i64.wrap ((IntKind.i64.wrap (r.1*100)).tdiv r.2)
def G4 (e:DY) (v:Int×Int):F2×Int:=cond e.2.1 (cond (!((Ds v.1 v.2 e.2.2.2.1 e.2.2.2.2.1 e.2.2.1).2.2==0)) (default,(Ds v.1 v.2 e.2.2.2.1 e.2.2.2.2.1 e.2.2.1).2.2) (cond (cond (decide (Fg ((Ds v.1 v.2 e.2.2.2.1 e.2.2.2.2.1 e.2.2.1).1,(Ds v.1 v.2 e.2.2.2.1 e.2.2.2.2.1 e.2.2.1).2.1) < -1000000000000)) true (decide (1000000000000<Fg ((Ds v.1 v.2 e.2.2.2.1 e.2.2.2.2.1 e.2.2.1).1,(Ds v.1 v.2 e.2.2.2.1 e.2.2.2.2.1 e.2.2.1).2.1)))) (default,4) ((e.1,((Ds v.1 v.2 e.2.2.2.1 e.2.2.2.2.1 e.2.2.1).1,(Ds v.1 v.2 e.2.2.2.1 e.2.2.2.2.1 e.2.2.1).2.1),true,Fg ((Ds v.1 v.2 e.2.2.2.1 e.2.2.2.2.1 e.2.2.1).1,(Ds v.1 v.2 e.2.2.2.1 e.2.2.2.2.1 e.2.2.1).2.1)),0))) ((e.1,v,false,0),0)
def Gj (d:EA):List DY->List (Int×Int)->List F2->List F2×Int
 | [],_,os=>(os,0)
 | e::tl,vs,os=>cond (!((Bh d vs e.2.2.2.2.2).1.2.2==0)) ([],(Bh d vs e.2.2.2.2.2).1.2.2) (cond (!((G4 e ((Bh d vs e.2.2.2.2.2).1.1,(Bh d vs e.2.2.2.2.2).1.2.1)).2==0)) ([],(G4 e ((Bh d vs e.2.2.2.2.2).1.1,(Bh d vs e.2.2.2.2.2).1.2.1)).2) (Gj d tl (vs++[(G4 e ((Bh d vs e.2.2.2.2.2).1.1,(Bh d vs e.2.2.2.2.2).1.2.1)).1.2.1]) (os++[(G4 e ((Bh d vs e.2.2.2.2.2).1.1,(Bh d vs e.2.2.2.2.2).1.2.1)).1])))
theorem RK {d:EA} {l:List DY} {i:Nat} {e:DY} {vs:List (Int×Int)} {os:List F2} (hi:l[i]?=some e):Gj d (l.drop i) vs os=cond (!((Bh d vs e.2.2.2.2.2).1.2.2==0)) ([],(Bh d vs e.2.2.2.2.2).1.2.2) (cond (!((G4 e ((Bh d vs e.2.2.2.2.2).1.1,(Bh d vs e.2.2.2.2.2).1.2.1)).2==0)) ([],(G4 e ((Bh d vs e.2.2.2.2.2).1.1,(Bh d vs e.2.2.2.2.2).1.2.1)).2) (Gj d (l.drop (i+1)) (vs++[(G4 e ((Bh d vs e.2.2.2.2.2).1.1,(Bh d vs e.2.2.2.2.2).1.2.1)).1.2.1]) (os++[(G4 e ((Bh d vs e.2.2.2.2.2).1.1,(Bh d vs e.2.2.2.2.2).1.2.1)).1]))):=by have hl:i<l.length:=(List.getElem?_eq_some_iff.1 hi).1;have he:l[i]=e:=(List.getElem?_eq_some_iff.1 hi).2;rw[<-getElem_cons_drop hl,Gj,he]
def ES (d:EA):List F2×Int:=cond (!(Cc d.ins d.scs d.pas d.rts)) ([],1) (Gj d d.rts [] [])
def mf:Op->Bool
 | .binOp .quo _ _ _ _=>true
 | _=>false
noncomputable def ag:Code:=Tryz.f10.body.getD .skip
def ub:=ν [.code ag]
def eJ:=Ψ ub
def AFB:=Θ eJ
def eI:=Ξ eJ
def UO:=ν (Au eI)
def ua:=AB (Aq Aa 90 (AE UO)) (AE UO)
def uZ:=ν (AD (AD ua))
def eH:=Ψ uZ
def AFA:=Θ eH
def UN:=Ξ eH
def lD:=Θ UN
def Qn:=Ψ lD
def AA2:=Θ Qn
def lC:=AB (Aq mf 90 (AG Qn)) (AG Qn)
def lB:=Ac 18 (AD lC)
def lA:=Ω lB
def AA1:=Θ lA
def L9:=AB (Aq BH 90 (AG UN)) (AG UN)
def kz:=AB (Aq BH 90 (AD L9)) (AD L9)
def AA0:=Ξ UO
theorem Pt {w:World} {m:HP} {d:EA} (χ:Jg w m d) (l0:∀e∈d.rts,e.2.2.2.2.2.length<=4294967296) :
  Calls Tryz.prog 10 ([D (Fc m d),V m.nA d.inp.length m.nc,V m.hA d.past.length m.hc]:List Value).toArray w λen w'=>∃A c,en=.returned (.tuple #[V A (ES d).1.length c,J (ES d).2])/\Below (U w) w w'/\AY (U w) w' [GE A c (ES d).1]:=by
 refine AS (fn:=Tryz.f10) (c:=ag) (n:=89) ?_;have p:∀ {u:World} {M:List Ax} {L:List Th},Wk w u M L []->(ES d).1=[]->∃A c,Ending.returned (.tuple #[V none 0 0,J (ES d).2])=.returned (.tuple #[V A (ES d).1.length c,J (ES d).2])/\Below (U w) w u/\AY (U w) u [GE A c (ES d).1]:=λ{u M L} K hm=>by refine⟨none,0,by rw[hm];rfl,K.B,?_⟩;rw[hm];exact(K.addNil 54 5 (λ(e:F2) r=>r=EY e)).own0 [L.length] (by simp[GE]) (by simp)
 refine An ub [N (U w) (Fc m d) 33] (Wk.start w) [(0,0)] λw1 K1=>?_;refine AW K1 (args:=[D (Fc m d)]) (Sw χ l0 w1 K1.B) λw2 K2=>?_;refine AC eJ K2 [] λw3 K3=>?_;refine AH (!(Cc d.ins d.scs d.pas d.rts)) (λcV=>?_) (λcV=>?_)
 ·have hS:ES d=([],1):=by unfold ES;rw[cV];rfl
  refine AC AFB K3 [] λw4 K4=>?_;refine AN K4 (0,0) (.tuple #[V none 0 0,J 1]) ?_;have:=p K4 (by rw[hS]);rw[hS]at this ⊢;exact this
 have hS:ES d=Gj d d.rts [] []:=by unfold ES;rw[cV];rfl
 obtain⟨i1,o1,k0⟩:=Rr (LC cV);refine An eI [N (U w) (Fc m d) 33,Cd m d (U w3) none 0 0 none 0 0] K3 [(0,0),(1,0),(0,3)] λw4 K4=>?_;refine AX [(3,Z (U w)),(8,Z (U w3)),(9,V none 0 0),(24,V m.rA d.rts.length m.rc),(25,J (d.rts.length:Int)),(26,J ((0:Nat):Int))] λE4=>?_;generalize (U w3)=g at K4 ⊢;have K5:Wk w w4 [Cd m d g none 0 0 none 0 0,N (U w) (Fc m d) 33] [CP none 0 [],CP none 0 [],GE none 0 []] []:=(((K4.pk [1,0] [] (M':=[Cd m d g none 0 0 none 0 0,N (U w) (Fc m d) 33]) (L':=[])).addNil 47 2 (λ(e:Int×Int) r=>r=BD e)).addNil 47 2 (λ(e:Int×Int) r=>r=BD e)).addNil 54 5 (λ(e:F2) r=>r=EY e);clear K1 K2 K3 K4;refine Bp (by kernel_rfl) (λE wx=>∃(i:Nat) (vs:List (Int×Int)) (os:List F2) (l:List (Int×Int)) (vA oA j:Option Addr) (vc oc h:Nat) (E0:Nat->Value),i<=d.rts.length/\vs.length=i/\os.length=i/\ES d=Gj d (d.rts.drop i) vs os/\E=BN E0 [(3,Z (U w)),(8,Z g),(9,V oA os.length oc),(24,V m.rA d.rts.length m.rc),(25,J (d.rts.length:Int)),(26,J (i:Int))]/\Wk w wx [Cd m d g vA vs.length vc j l.length h,N (U w) (Fc m d) 33] [CP j h l,CP vA vc vs,GE oA oc os] []) (λE _=>d.rts.length-AP (E 26)) ⟨0,[],[],[],none,none,none,0,0,0,E4,Nat.zero_le _,rfl,rfl,hS,rfl,K5⟩ ?_;clear K5;rintro E wx ⟨i,vs,os,l,vA,oA,j,vc,oc,h,E0,hi,w0,z0,hv,rfl,K1⟩ h0;refine AC UO K1 [] λw4 K4=>?_;refine AH (decide ((i:Int)<(d.rts.length:Int))) (λc5=>?_) (λc5=>?_)
 ·have g0:i<d.rts.length:=by have:=of_decide_eq_true c5;omega
  obtain⟨e,he⟩:∃e,d.rts[i]?=some e:=⟨_,getElem?_eq_getElem g0⟩;obtain⟨hJ,⟨hs,hH⟩,hI⟩:=(k0 i e he).run (vs:=vs) he (by omega);rw[RK he]at hv;obtain⟨gr,fr,hA,d1,m0⟩:=χ.rts.all (by omega);obtain⟨A1,c1,hr,hx⟩:=m0 i e he;refine Ao Aa ua K4 [] λw6 K6=>?_;rw[hA];refine Aw (g:=gr) (off:=fr) (cap:=m.rc) (sz:=6) (k:=i) (len:=d.rts.length) (some 29) g0 Tryz.underlying31 ?_;refine Bd 50 gr (fr+i*6) _ (some 30) (Aj hr d1 K6.B) ?_;refine An uZ [Cd m d g vA vs.length vc j l.length h,N (U w) (Fc m d) 33,N (U w6) (Dg e A1 c1) 50] K6 [(2,0)] λw7 K7=>?_;generalize (U w6)=b1 at K7 ⊢;refine BL (YH i e he hH hI hJ (by have:=(k0 i e he).len;omega) χ (λu B H=>H.rowsF (f:=BD) (λ_=>rfl) 2 rfl) ⟨K7.B,K7.lend1⟩) λen w8 hh=>?_;obtain⟨rfl,j,h,l,M8⟩:=hh;refine⟨_,rfl,?_⟩;have K8:Wk w w8 [Cd m d g vA vs.length vc j l.length h,N (U w) (Fc m d) 33,N b1 (Dg e A1 c1) 50] [CP j h l,CP vA vc vs,GE oA oc os] []:=Wk.unlend1 M8.B M8.H;clear K1 K4 K6 K7 M8;have fin:∀(o:F2) (u:World) (z bO:Nat) (E:Nat->Value) (bX:Nat) (xs:List Value),ES d=Gj d (d.rts.drop (i+1)) (vs++[o.2.1]) (os++[o])->Wk w u [Cd m d g vA vs.length vc j l.length h,N (U w) (Fc m d) 33,N b1 (Dg e A1 c1) 50,N z (BD o.2.1) 47,N bX xs 54,N bO (EY o) 54] [CP j h l,CP vA vc vs,GE oA oc os] []->At Tryz.prog 10 (λen w'=>∃A c,en=.returned (.tuple #[V A (ES d).1.length c,J (ES d).2])/\Below (U w) w w'/\AY (U w) w' [GE A c (ES d).1]) L9 (Fr 89 (BN E [(3,Z (U w)),(8,Z g),(9,V oA os.length oc),(24,V (some ⟨gr,fr,none⟩) d.rts.length m.rc),(25,J (d.rts.length:Int)),(26,J (i:Int)),(12,Z z),(77,V oA os.length oc),(79,φ bO 1 1)])) u:=λo u z bO E bX xs hq K=>by refine CD K.H (K.ix 2) (K.at 2 rfl) o (EY o) rfl bO (K.ent 5 rfl) (Cr L9) (by kernel_rfl) (.tmp 77) (.tmp 79) 42 (by kernel_rfl) (by kernel_rfl) (by kernel_rfl) (by decide) (by kernel_rfl) (by kernel_rfl) rfl rfl (by omega) λA2 c2 u2 Hn b2=>?_;have K2:Wk w u2 _ [CP j h l,CP vA vc vs,GE A2 c2 (os++[o])] []:=K.put 2 (by simp) b2 Hn;refine Bn BH kz [Cd m d g vA vs.length vc j l.length h,N (U w) (Fc m d) 33,N b1 (Dg e A1 c1) 50,N z (BD o.2.1) 47,N bX xs 54,N bO (EY o) 54,N (U u2) (BD o.2.1) 47] K2 [(0,6),(3,0)] λu3 K3=>?_;refine CD K3.H (K3.ix 1) (K3.at 1 rfl) o.2.1 (BD o.2.1) rfl (U u2) (K3.ent 6 rfl) (Cr kz) (by kernel_rfl) (.tmp 82) (.tmp 84) 45 (by kernel_rfl) (by kernel_rfl) (by kernel_rfl) (by decide) (by kernel_rfl) (by kernel_rfl) rfl rfl (by omega) λA4 c4 u4 h1 b4=>?_;have K4:Wk w u4 _ [CP j h l,CP A4 c4 (vs++[o.2.1]),GE A2 c2 (os++[o])] []:=K3.put 1 (by simp) b4 h1;refine An (Ab eI) [Cd m d g A4 (vs++[o.2.1]).length c4 j l.length h,N (U w) (Fc m d) 33,N b1 (Dg e A1 c1) 50,N z (BD o.2.1) 47,N bX xs 54,N bO (EY o) 54,N (U u2) (BD o.2.1) 47] K4 [(0,6)] λu5 K5=>?_;refine AX [(3,Z (U w)),(8,Z g),(9,V A2 (os++[o]).length c2),(24,V (some ⟨gr,fr,none⟩) d.rts.length m.rc),(25,J (d.rts.length:Int)),(26,J (IntKind.i64.wrap ((i:Int)+1)))] λE5=>?_;rw[Bs i (by omega),<-hA];refine h0 _ _ ⟨i+1,vs++[o.2.1],os++[o],l,A4,A2,j,c4,c2,h,E5,g0,by rw[length_append,w0];rfl,by rw[length_append,z0];rfl,hq,rfl,K5.pk [0,1] [0,1,2]⟩ ?_;show d.rts.length-AP (J ((i+1:Nat):Int))<d.rts.length-AP (J (i:Int));simp only[AP];omega
  generalize Bh d vs e.2.2.2.2.2=q at hv ⊢;obtain⟨⟨q1,q2,q3⟩,qs⟩:=q;dsimp only at hv ⊢;refine An eH [Cd m d g vA vs.length vc j l.length h,N (U w) (Fc m d) 33,N b1 (Dg e A1 c1) 50,N (U w8) (BD (q1,q2)) 47] K8 [(3,0)] λw9 K9=>?_;generalize (U w8)=z at K9 ⊢;refine AH (!(q3==0)) (λcq=>?_) (λcq=>?_)<;>rw[cq]at hv
  ·refine AC AFA K9 [] λe0 v=>?_;refine AN v (0,0) (.tuple #[V none 0 0,J q3]) ?_;have:=p v (by rw[hv];rfl);rw[hv]at this ⊢;exact this
  rw[cond_false]at hv;refine An UN [Cd m d g vA vs.length vc j l.length h,N (U w) (Fc m d) 33,N b1 (Dg e A1 c1) 50,N z (BD (q1,q2)) 47,N (U w9) (EY (e.1,(q1,q2),e.2.1,0)) 54] K9 [(2,0),(3,0),(2,1),(4,0),(2,1)] λe0 v=>?_;generalize (U w9)=bO at v ⊢;refine AH e.2.1 (λcp=>?_) (λcp=>?_)
  ·unfold G4 at hv;rw[cp]at hv v;simp only[cond_true]at hv;refine AC lD v [(3,0),(2,3),(2,2)] λv0 g1=>?_;refine AW g1 (args:=[D (BD (q1,q2)),D [J e.2.2.2.1,J e.2.2.2.2.1],J e.2.2.1]) (RD q1 q2 e.2.2.2.1 e.2.2.2.2.1 e.2.2.1 v0) λn1 f1=>?_;have d0:=Nm q1 q2 e.2.2.2.1 e.2.2.2.2.1 e.2.2.1;generalize Ds q1 q2 e.2.2.2.1 e.2.2.2.2.1 e.2.2.1=r at hv d0 ⊢;obtain⟨t,s,r3⟩:=r;dsimp only at hv;refine An Qn [Cd m d g vA vs.length vc j l.length h,N (U w) (Fc m d) 33,N b1 (Dg e A1 c1) 50,N z (BD (t,s)) 47,N bO (EY (e.1,(q1,q2),true,0)) 54] f1 [(3,0)] λm1 r0=>?_;refine AH (!(r3==0)) (λcr=>?_) (λcr=>?_)<;>rw[cr]at hv
   ·rw[cond_true]at hv;dsimp only at hv;rw[cr]at hv;refine AC AA2 r0 [] λt0 c0=>?_;refine AN c0 (0,0) (.tuple #[V none 0 0,J r3]) ?_;have:=p c0 (by rw[hv];rfl);rw[hv]at this ⊢;exact this
   rw[cond_false]at hv;have hd:=Bt (n:=t) (d:=s) (d0 (by simpa using cr));refine Bn mf lC [Cd m d g vA vs.length vc j l.length h,N (U w) (Fc m d) 33,N b1 (Dg e A1 c1) 50,N z (BD (t,s)) 47,N bO (EY (e.1,(t,s),true,0)) 54] r0 [(3,0),(4,1),(3,0),(3,1)] λt0 c0=>?_;refine EW (TP (T:=3) (T':=3) (x:=.tmp 64) (y:=.tmp 66) (a:=IntKind.i64.wrap (t*100)) (b:=s) (by kernel_rfl) (by kernel_rfl) (by kernel_rfl) (by omega)) ?_;refine Bg 18 lB [Cd m d g vA vs.length vc j l.length h,N (U w) (Fc m d) 33,N b1 (Dg e A1 c1) 50,N z (BD (t,s)) 47,N bO (EY (e.1,(t,s),true,Fg (t,s))) 54] c0 [(4,4)] λl1 q0=>?_;refine Ap q0 [(1,4,4),(5,4,4)] [] q0.G (λsp x0=>by cases x0) λk1 p1 e1=>?_;refine AC lA e1 [] λj0 p0=>?_;refine AH (cond (decide (Fg (t,s) < -1000000000000)) true (decide (1000000000000<Fg (t,s)))) (λcc=>?_) (λcc=>?_)<;>rw[cc]at hv
   ·refine AC AA1 p0 [] λb0 a0=>?_;refine AN a0 (0,0) (.tuple #[V none 0 0,J 4]) ?_;have:=p a0 (by rw[hv];rfl);rw[hv]at this ⊢;exact this
   refine Bn BH L9 [Cd m d g vA vs.length vc j l.length h,N (U w) (Fc m d) 33,N b1 (Dg e A1 c1) 50,N z (BD (t,s)) 47,N bO (EY (e.1,(t,s),true,Fg (t,s))) 54,N (U j0) (EY (e.1,(t,s),true,Fg (t,s))) 54] p0 [(4,0)] λb0 a0=>?_;refine AX [(3,Z (U w)),(8,Z g),(9,V oA os.length oc),(24,V (some ⟨gr,fr,none⟩) d.rts.length m.rc),(25,J (d.rts.length:Int)),(26,J (i:Int)),(12,Z z),(77,V oA os.length oc),(79,V (some ⟨U j0,0,none⟩) 1 1)] λi0=>?_;exact fin (e.1,(t,s),true,Fg (t,s)) b0 z _ i0 _ _ hv a0
  unfold G4 at hv;rw[cp]at hv v;refine Bn BH L9 [Cd m d g vA vs.length vc j l.length h,N (U w) (Fc m d) 33,N b1 (Dg e A1 c1) 50,N z (BD (q1,q2)) 47,N bO (EY (e.1,(q1,q2),false,0)) 54,N (U e0) (EY (e.1,(q1,q2),false,0)) 54] v [(4,0)] λb0 a0=>?_;refine AX [(3,Z (U w)),(8,Z g),(9,V oA os.length oc),(24,V (some ⟨gr,fr,none⟩) d.rts.length m.rc),(25,J (d.rts.length:Int)),(26,J (i:Int)),(12,Z z),(77,V oA os.length oc),(79,V (some ⟨U e0,0,none⟩) 1 1)] λi0=>?_;exact fin (e.1,(q1,q2),false,0) b0 z _ i0 _ _ hv a0
 have a1:i=d.rts.length:=by have:=of_decide_eq_false c5;omega
 rw[a1,drop_length,Gj]at hv;refine AC AA0 K4 [] λw6 K6=>?_;refine AN K6 (0,0) (.tuple #[V oA os.length oc,J 0]) ⟨oA,oc,by rw[hv],K6.B,by rw[hv];exact K6.own0 [2] rfl (by decide)⟩
def LA (a b:Int):Bool:=((decide (1<=b)&&decide (b<=1000000))&&decide (-1000000000000<=a))&&decide (a<=1000000000000)
def Gy (a b:Int):Bool:=LA a b&&decide ((Nat.gcd a.natAbs b.natAbs:Int)=1)
theorem Mg {a b:Int} (h:(LA a b&&true)=true):1<=b/\b<=1000000/\-1000000000000<=a/\a<=1000000000000:=by simp only[LA,Bool.and_true,Bool.and_eq_true,decide_eq_true_eq]at h;omega
theorem Kh {a b:Int} (h:AV a b=true):Gy a b=true:=by have c:=Bt h;have h2:=H1 h;unfold Gy LA;rw[h2];simp;omega
noncomputable def aW:Code:=Tryz.f39.body.getD .skip
def tS:=Ac 1 [.code aW]
def AEq:=Ω tS
theorem GA (a b:Int) (w:World):Calls Tryz.prog 39 ([D [J a,J b]]:List Value).toArray w λe w'=>e=.returned (I (Gy a b))/\Below (U w) w w':=by
 refine AS (fn:=Tryz.f39) (c:=aW) (n:=31) ?_;refine Bg 1 tS [N (U w) [J a,J b] 47] (Wk.start w) [] λm h=>?_;refine Ap h [(1,0,1),(5,0,1),(10,0,0),(15,0,0),(20,0,0),(23,0,1)] [⟨21,[(23,J a)],.int .u64 (a.natAbs:Nat),LA a b&&true⟩,⟨24,[(26,J b)],.int .u64 (b.natAbs:Nat),LA a b&&true⟩,⟨25,[(24,.int .u64 (a.natAbs:Nat)),(27,.int .u64 (b.natAbs:Nat))],.int .u64 (Nat.gcd a.natAbs b.natAbs:Nat),LA a b&&true⟩] h.G (λo d=>?_) λl p i=>?_
 ·simp only[mem_cons,not_mem_nil,or_false]at d;rcases d with rfl | rfl | rfl
  ·refine AU 37 [.tmp 23] [J a] (λE=>by kernel_rfl) λhc u hu=>AR hu ?_;have:=Mg hc;exact(JU a u (by omega) (by omega)).mono λ_ _ ⟨f,h2⟩=>⟨f,Kd h2⟩
  ·refine AU 37 [.tmp 26] [J b] (λE=>by kernel_rfl) λhc u hu=>AR hu ?_;have:=Mg hc;exact(JU b u (by omega) (by omega)).mono λ_ _ ⟨f,h2⟩=>⟨f,Kd h2⟩
  refine AU 38 [.tmp 24,.tmp 27] [.int .u64 (a.natAbs:Nat),.int .u64 (b.natAbs:Nat)] (λE=>by kernel_rfl) λhc u hu=>AR hu ?_;have:=Mg hc;exact(ND a.natAbs b.natAbs u (by omega) (by omega)).mono λ_ _ ⟨f,⟨k,h2⟩⟩=>⟨f,by rw[h2];exact below_drewN (Below.refl _ _) k⟩
 refine AC AEq i [] λj g=>?_;exact AN g (0,0) (I (Gy a b)) ⟨rfl,g.B⟩
theorem Pf (n d:Int) (w:World) (a:-4000000000000000000<=n) (hn:n<=4000000000000000000) (b:-4000000000000000000<=d) (hd:d<=4000000000000000000):Calls Tryz.prog 12 ([J n,J d]:List Value).toArray w λe w'=>e=.returned (CY (D1 n d))/\Below (U w) w w':=
 (RH n d w a hn b hd).mono λe w' h=>⟨h.1,h.2⟩
noncomputable def aY:Code:=Tryz.f13.body.getD .skip
def ta:=Ac 1 [.code aY]
def tZ:=Ω ta
def tY:=Ξ tZ
def tX:=Ξ tY
def AEu:=Ψ tX
theorem qU (a b c d:Int) (w:World) (g:AV a b=true) (h2:AV c d=true) (hc:c≠0):Calls Tryz.prog 13 ([D [J a,J b],D [J c,J d]]:List Value).toArray w λe w'=>e=.returned (CY (D1 (a*d) (b*c)))/\Below (U w) w w':=by
 refine AS (fn:=Tryz.f13) (c:=aY) (n:=32) ?_;refine Bg 1 ta [N (U w) [J a,J b] 47,N (U w+1) [J c,J d] 47,N (U w+2) [J 0,J 0] 47] (Wk.start w) [] λw1 j=>?_;refine Ap j [(0,0,0),(4,1,0)] [⟨1,[(6,D [J a,J b])],I (Gy a b),true⟩,⟨5,[(10,D [J c,J d])],I (Gy c d),(!(!(Gy a b)))&&true⟩] j.G (λsp f=>?_) λw2 E2 K3=>?_
 ·simp only[mem_cons,not_mem_nil,or_false]at f;rcases f with rfl | rfl
  ·exact AU 39 [.tmp 6] _ (λ_=>by kernel_rfl) λ_ u hu=>AR hu (GA a b u)
  exact AU 39 [.tmp 10] _ (λ_=>by kernel_rfl) λ_ u hu=>AR hu (GA c d u)
 obtain⟨a1,r,a3,a4⟩:=Bt g;obtain⟨c2,q,p,o⟩:=Bt h2;refine AC tZ K3 [] λw3 z=>?_;refine AH (cond (!(Gy a b)) true (!(Gy c d))) (λh=>by rw[Kh g,Kh h2]at h;cases h) (λ_=>?_);have m1:=Em (x:=a) (y:=d) (X:=1000000000000) (η:=1000000) a3 a4 (by omega) q (by decide);have m2:=Em (x:=c) (y:=b) (X:=1000000000000) (η:=1000000) p o (by omega) r (by decide);have m:IntKind.i64.wrap (a*d)=a*d:=IntWalk.i64_in _ (by omega);have l:IntKind.i64.wrap (b*c)=b*c:=by rw[Int.mul_comm b c];exact IntWalk.i64_in _ (by omega)
 refine AC tY z [(1,0)] λw4 v=>?_;refine AH (c==0) (λh=>absurd (by simpa using h) hc) (λ_=>?_);refine AC tX v [(0,0),(1,1),(0,1),(1,0)] λk t=>?_;refine AW t (args:=[J (IntKind.i64.wrap (a*d)),J (IntKind.i64.wrap (b*c))]) (by rw[m,l];exact Pf (a*d) (b*c) k (by omega) (by omega) (by rw[Int.mul_comm b c];omega) (by rw[Int.mul_comm b c];omega)) λw6 s=>?_;refine Ar AEu s [(2,0)] λw7 i=>?_;exact AN i (2,0) (CY (D1 (a*d) (b*c))) ⟨rfl,i.B⟩
noncomputable def aX:Code:=Tryz.f14.body.getD .skip
def tV:=Ac 1 [.code aX]
def tU:=Ω tV
def tT:=Ξ tU
def AEr:=Ψ tT
theorem qT (a b c d:Int) (w:World) (g:AV a b=true) (h2:AV c d=true):Calls Tryz.prog 14 ([D [J a,J b],D [J c,J d]]:List Value).toArray w λe w'=>e=.returned (CY (D1 (a*d-c*b) (b*d)))/\Below (U w) w w':=by
 refine AS (fn:=Tryz.f14) (c:=aX) (n:=34) ?_;refine Bg 1 tV [N (U w) [J a,J b] 47,N (U w+1) [J c,J d] 47,N (U w+2) [J 0,J 0] 47] (Wk.start w) [] λw1 l=>?_;refine Ap l [(0,0,0),(4,1,0)] [⟨1,[(6,D [J a,J b])],I (Gy a b),true⟩,⟨5,[(10,D [J c,J d])],I (Gy c d),(!(!(Gy a b)))&&true⟩] l.G (λsp f=>?_) λw2 E2 z=>?_
 ·simp only[mem_cons,not_mem_nil,or_false]at f;rcases f with rfl | rfl
  ·exact AU 39 [.tmp 6] _ (λ_=>by kernel_rfl) λ_ u hu=>AR hu (GA a b u)
  exact AU 39 [.tmp 10] _ (λ_=>by kernel_rfl) λ_ u hu=>AR hu (GA c d u)
 obtain⟨a1,j,a3,a4⟩:=Bt g;obtain⟨c2,i,r,q⟩:=Bt h2;refine AC tU z [] λw3 v=>?_;refine AH (cond (!(Gy a b)) true (!(Gy c d))) (λh=>by rw[Kh g,Kh h2]at h;cases h) (λ_=>?_);have m1:=Em (x:=a) (y:=d) (X:=1000000000000) (η:=1000000) a3 a4 (by omega) i (by decide);have m2:=Em (x:=c) (y:=b) (X:=1000000000000) (η:=1000000) r q (by omega) j (by decide);have m3:=Em (x:=b) (y:=d) (X:=1000000) (η:=1000000) (by omega) j (by omega) i (by decide);have p:IntKind.i64.wrap (IntKind.i64.wrap (a*d)-IntKind.i64.wrap (c*b))=a*d-c*b:=by rw[IntWalk.i64_in (a*d) (by omega),IntWalk.i64_in (c*b) (by omega),IntWalk.i64_in _ (by omega)]
 have o:IntKind.i64.wrap (b*d)=b*d:=IntWalk.i64_in _ (by omega);refine AC tT v [(0,0),(1,1),(1,0),(0,1),(0,1),(1,1)] λm t=>?_;refine AW t (args:=[J (IntKind.i64.wrap (IntKind.i64.wrap (a*d)-IntKind.i64.wrap (c*b))),J (IntKind.i64.wrap (b*d))]) (by rw[p,o];exact Pf (a*d-c*b) (b*d) m (by omega) (by omega) (by omega) (by omega)) λw6 s=>?_;refine Ar AEr s [(2,0)] λw7 k=>?_;exact AN k (2,0) (CY (D1 (a*d-c*b) (b*d))) ⟨rfl,k.B⟩
noncomputable def aZ:Code:=Tryz.f15.body.getD .skip
def tg:=Ac 1 [.code aZ]
def tf:=Ω tg
def te:=Ac 3 (AG tf)
def dp:=Ω te
def AEx:=Θ dp
def dm:=Ξ dp
def AEw:=Θ dm
def AEv:=Ξ dm
theorem qV (a b c d:Int) (w:World) (l:AV a b=true) (h2:AV c d=true):Calls Tryz.prog 15 ([D [J a,J b],D [J c,J d]]:List Value).toArray w λe w'=>e=.returned (J (cond (decide (a*d<c*b)) (-1) (cond (decide (c*b<a*d)) 1 0)))/\Below (U w) w w':=by
 refine AS (fn:=Tryz.f15) (c:=aZ) (n:=33) ?_;refine Bg 1 tg [N (U w) [J a,J b] 47,N (U w+1) [J c,J d] 47] (Wk.start w) [] λw1 r=>?_;refine Ap r [(0,0,0),(4,1,0)] [⟨1,[(7,D [J a,J b])],I (Gy a b),true⟩,⟨5,[(11,D [J c,J d])],I (Gy c d),(!(!(Gy a b)))&&true⟩] r.G (λv f=>?_) λw2 E2 K3=>?_
 ·simp only[mem_cons,not_mem_nil,or_false]at f;rcases f with rfl | rfl
  ·exact AU 39 [.tmp 7] _ (λ_=>by kernel_rfl) λ_ u hu=>AR hu (GA a b u)
  exact AU 39 [.tmp 11] _ (λ_=>by kernel_rfl) λ_ u hu=>AR hu (GA c d u)
 obtain⟨a1,a2,a3,a4⟩:=Bt l;obtain⟨c2,c3,c4,z⟩:=Bt h2;refine AC tf K3 [] λw3 K4=>?_;refine AH (cond (!(Gy a b)) true (!(Gy c d))) (λh=>by rw[Kh l,Kh h2]at h;cases h) (λ_=>?_);have m1:=Em (x:=a) (y:=d) (X:=1000000000000) (η:=1000000) a3 a4 (by omega) c3 (by decide);have m2:=Em (x:=c) (y:=b) (X:=1000000000000) (η:=1000000) c4 z (by omega) a2 (by decide);have o:IntKind.i64.wrap (a*d)=a*d:=IntWalk.i64_in _ (by omega);have m:IntKind.i64.wrap (c*b)=c*b:=IntWalk.i64_in _ (by omega);refine Al 3 te K4 [] λw4 q=>?_;refine Ap q [(1,0,0),(3,1,1),(6,1,0),(8,0,1)] [] q.G (λv f=>by cases f) λw5 E5 K6=>?_;refine AC dp K6 [] λw6 p=>?_;refine AH (decide (IntKind.i64.wrap (a*d)<IntKind.i64.wrap (c*b))) (λg=>?_) (λg=>?_)<;>rw[o,m]at g
 ·refine AC AEx p [] λt j=>?_;exact AN j (0,0) (J (-1)) ⟨by rw[g];rfl,j.B⟩
 refine AC dm p [] λt j=>?_;refine AH (decide (IntKind.i64.wrap (c*b)<IntKind.i64.wrap (a*d))) (λk=>?_) (λk=>?_)<;>rw[o,m]at k
 ·refine AC AEw j [] λs i=>?_;exact AN i (0,0) (J 1) ⟨by rw[g,k];rfl,i.B⟩
 refine AC AEv j [] λs i=>?_;exact AN i (0,0) (J 0) ⟨by rw[g,k];rfl,i.B⟩
end
end Go.Proofs.YtkpemkkbjfbmaaaGreat

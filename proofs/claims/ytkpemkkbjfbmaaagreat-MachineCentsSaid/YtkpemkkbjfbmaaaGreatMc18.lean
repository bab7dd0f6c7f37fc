/- Contracts of functions, part 18. -/
import Derived.Test.YtkpemkkbjfbmaaaGreatMc17
import Derived.Test.YtkpemkkbjfbmaaaGreatMc15
set_option linter.all false
namespace Go.Proofs.YtkpemkkbjfbmaaaGreat
open List
noncomputable section
open Go.RowKit
set_option maxRecDepth 100000
set_option maxHeartbeats 1000000
attribute [local irreducible] BI BQ AD AE AG Au Ab AO A8 Bi Ct BX BO At Fr
section
variable (DP:Ex->Prop)
def EX (f:Ex->Nat->List AM) (mi:List (List UInt8×Int)) (ms:List (List UInt8×Int)) (mp:List (List UInt8×Int)) (mr:List (List UInt8×Int)) (x:Ex):List (Ex)->List AM->List AM
 | [],a0_0=>a0_0++[((BB mi ms mp mr x))]
 | e0::tl,a0_0=>EX f mi ms mp mr x tl (AJ f a0_0 e0)
theorem Sk {f:Ex->Nat->List AM} {d:List (List UInt8×Int)} {ms:List (List UInt8×Int)} {c:List (List UInt8×Int)} {b:List (List UInt8×Int)} {x:Ex} {a:List AM}:EX f d ms c b x [] a=(a++[((BB d ms c b x))]):=by rw[EX]
theorem R4 {f:Ex->Nat->List AM} {e:List (List UInt8×Int)} {ms:List (List UInt8×Int)} {d:List (List UInt8×Int)} {c:List (List UInt8×Int)} {x:Ex} {a:List AM} {es:List (Ex)} (i:Nat) (b:Ex) (hi:es[i]?=some b):EX f e ms d c x (es.drop i) a=(EX f e ms d c x (es.drop (i+1)) (AJ f a b)):=by have hl:i<es.length:=(List.getElem?_eq_some_iff.1 hi).1;have he:es[i]=b:=(List.getElem?_eq_some_iff.1 hi).2;rw[<-getElem_cons_drop hl,EX]<;>(try rw[he])
def FV (f:Ex->Nat->List AM) (mi:List (List UInt8×Int)) (ms:List (List UInt8×Int)) (mp:List (List UInt8×Int)) (mr:List (List UInt8×Int)) (l:List AM) (x:Ex):List AM:=cond (x.op==18) ((AJ (DI f) l x)) (cond (x.op==12) ((AJ (DI f) l x)) (cond (x.op==13) ((AJ (DI f) l x)) (EX f mi ms mp mr x x.ks l)))
noncomputable def av:Code:=Tryz.f29.body.getD .skip
def gC:=ν ([.code av])
def wV:=Θ gC
def wU:=Θ wV
def AGE:=Ψ wU
def gB:=Ξ gC
def wT:=Θ gB
def wS:=Θ wT
def AGD:=Ψ wS
def gA:=Ξ gB
def wR:=Θ gA
def ACX:=Ψ wR
def W2:=Ξ gA
def Q7:=ν (Au W2)
def ly:=AB (Aq Aa 90 (AE Q7)) (AE Q7)
def ACW:=ν (AD (AD ly))
def W1:=Ξ Q7
def W0:=AB (Aq BH 90 (AD W1)) (AD W1)
def ACV:=Ψ W0
theorem ZB (L:List Th) (f:Ex->Nat->List AM) (p0aaA:Option Addr) (p0aan p0aac:Nat) (p0abA:Option Addr) (p0abn p0abc:Nat) (p0acA:Option Addr) (p0acn p0acc:Nat) (p0adA:Option Addr) (p0adn p0adc bi:Nat) (q:List (List UInt8×Int)) (bs:Nat) (ms:List (List UInt8×Int)) (bp:Nat) (p:List (List UInt8×Int)) (br:Nat) (o:List (List UInt8×Int)) (j:Option Addr) (l:List AM) (i:Nat) (x:Ex) (b:Option Addr) (a:Nat) (w m:World) (g1:Ag.at BW bi q w) (d1:Ag.at BW bs ms w) (f1:Ag.at BW bp p w) (e1:Ag.at BW br o w) (y:rowsEx w b x.ks) (n2:∀(L:List Th) (j:Option Addr) (l:List AM) (i:Nat) (x':Ex) (b:Option Addr) (a:Nat) (m:World),rowsEx w b x'.ks->DP x'->l.length+4*nE x'<=400000000->Below (U w) w m->AY (U w) m ([Cw j i l]++L)->Calls Tryz.prog 29 ([D [V p0aaA p0aan p0aac,V p0abA p0abn p0abc,V p0acA p0acn p0acc,V p0adA p0adn p0adc,.map (some bi),.map (some bs),.map (some bp),.map (some br)],V j l.length i,D (Ad x' b a)]:List Value).toArray m λe w'=>∃(v:Option Addr) (u:Nat),e=.returned (V v (AJ f l x').length u)/\Below (U w) w w'/\AY (U w) w' ([Cw v u (AJ f l x')]++L)) (h1:∀(L:List Th) (j:Option Addr) (l:List AM) (i:Nat) (x':Ex) (b:Option Addr) (a:Nat) (m:World),rowsEx w b x'.ks->x'=x->((x.op==18)=true\/(x.op==12)=true\/(x.op==13)=true)->l.length+4*nE x'<=400000000->Below (U w) w m->AY (U w) m ([Cw j i l]++L)->Calls Tryz.prog 57 ([D [V p0aaA p0aan p0aac,V p0abA p0abn p0abc,V p0acA p0acn p0acc,V p0adA p0adn p0adc,.map (some bi),.map (some bs),.map (some bp),.map (some br)],V j l.length i,D (Ad x' b a)]:List Value).toArray m λe w'=>∃(v:Option Addr) (u:Nat),e=.returned (V v (AJ (DI f) l x').length u)/\Below (U w) w w'/\AY (U w) w' ([Cw v u (AJ (DI f) l x')]++L)) (a1:EB x) (h0:∀k∈x.ks,DP k) (o2:∀k n,DP k->(f k n).length<=4*nE k) (hb:l.length+4*nE x<=400000000) (B:Below (U w) w m) (H:AY (U w) m ([(Cw j i l)]++L)):Calls Tryz.prog 29 ([D [V p0aaA p0aan p0aac,V p0abA p0abn p0abc,V p0acA p0acn p0acc,V p0adA p0adn p0adc,.map (some bi),.map (some bs),.map (some bp),.map (some br)],V j l.length i,D ((ω x b a))]:List Value).toArray m λe w'=>∃(v:Option Addr) (u:Nat),e=.returned (V v ((FV f q ms p o l x).length) u)/\Below (U w) w w'/\AY (U w) w' ([Cw v u (FV f q ms p o l x)]++L):=by
 refine AS (fn:=Tryz.f29) (c:=av) (n:=37) ?_;have K1:Wk w m [] [(Cw j i l)] L:=⟨B,H⟩;clear B H;have v3:=Xr a1;refine An gC [N (U m) [V p0aaA p0aan p0aac,V p0abA p0abn p0abc,V p0acA p0acn p0acc,V p0adA p0adn p0adc,.map (some bi),.map (some bs),.map (some bp),.map (some br)] 87,N (U m+1) ((Ad x b a)) 70] K1 [(1,0)] λw1 K2=>?_;refine AH (x.op==18) (λc2=>?_) (λc2=>?_)
 ·refine AC wV K2 [] λw3 K3=>?_;refine AH (x.op==18) (λ_=>?_) (λh=>nomatch h.symm.trans c2);refine AC wU K3 [(0,0),(1,0)] λw5 K4=>?_;have Kf:=(K4.pickL (L':=[(Cw j i l)]++[]) [0] rfl (by decide)).front;refine BL (h1 _ j l i x b a w5 y rfl (by first | exact .inl (by assumption) | exact .inr (.inl (by assumption)) | exact .inr (.inr (by assumption))) hb K4.B Kf) λen w7 hh=>?_;obtain⟨c1,b1,rfl,b7,Hn⟩:=hh;refine⟨_,rfl,?_⟩;have K5:=Wk.unfront b7 Hn;refine AC AGE K5 [] λw8 K6=>?_;have hS:(FV f q ms p o l x)=(AJ (DI f) l x):=by unfold FV;rw[c2]<;>rfl
  exact AN K6 (0,0) (V c1 (((AJ (DI f) l x)).length) b1) ⟨c1,b1,by rw[hS]<;>rfl,K6.B,by rw[hS];exact K6.own [0] rfl (by decide)⟩
 refine AC gB K2 [] λw9 K7=>?_;refine AH (x.op==12) (λr0=>?_) (λr0=>?_)
 ·refine AC wT K7 [] λt3 K8=>?_;refine AH (x.op==12) (λ_=>?_) (λh=>nomatch h.symm.trans r0);refine AC wS K8 [(0,0),(1,0)] λm2 K9=>?_;have Kf:=(K9.pickL (L':=[(Cw j i l)]++[]) [0] rfl (by decide)).front;refine BL (h1 _ j l i x b a m2 y rfl (by first | exact .inl (by assumption) | exact .inr (.inl (by assumption)) | exact .inr (.inr (by assumption))) hb K9.B Kf) λen r3 hh=>?_;obtain⟨x0,q0,rfl,t2,Hn⟩:=hh;refine⟨_,rfl,?_⟩;have e3:=Wk.unfront t2 Hn;refine AC AGD e3 [] λq3 o1=>?_;have hS:(FV f q ms p o l x)=(AJ (DI f) l x):=by unfold FV;rw[c2,r0]<;>rfl
  exact AN o1 (0,0) (V x0 (((AJ (DI f) l x)).length) q0) ⟨x0,q0,by rw[hS]<;>rfl,o1.B,by rw[hS];exact o1.own [0] rfl (by decide)⟩
 refine AC gA K7 [] λp3 d2=>?_;refine AH (x.op==13) (λl1=>?_) (λl1=>?_)
 ·refine AC wR d2 [(0,0),(1,0)] λl2 b2=>?_;have Kf:=(b2.pickL (L':=[(Cw j i l)]++[]) [0] rfl (by decide)).front;refine BL (h1 _ j l i x b a l2 y rfl (by first | exact .inl (by assumption) | exact .inr (.inl (by assumption)) | exact .inr (.inr (by assumption))) hb b2.B Kf) λen o3 hh=>?_;obtain⟨w0,p0,rfl,s2,Hn⟩:=hh;refine⟨_,rfl,?_⟩;have c3:=Wk.unfront s2 Hn;refine AC ACX c3 [] λn3 n1=>?_;have hS:(FV f q ms p o l x)=(AJ (DI f) l x):=by unfold FV;rw[c2,r0,l1]<;>rfl
  exact AN n1 (0,0) (V w0 (((AJ (DI f) l x)).length) p0) ⟨w0,p0,by rw[hS]<;>rfl,n1.B,by rw[hS];exact n1.own [0] rfl (by decide)⟩
 refine AC W2 d2 [(1,9)] λk2 b3=>?_;have a3:Wk w k2 [N (U m) [V p0aaA p0aan p0aac,V p0abA p0abn p0abc,V p0acA p0acn p0acc,V p0adA p0adn p0adc,.map (some bi),.map (some bs),.map (some bp),.map (some br)] 87,N (U m+1) ((Ad x b a)) 70] [(Cw j i l)] L:=b3.pk [0,1] [0];have z:(FV f q ms p o l x)=EX f q ms p o x x.ks l:=by unfold FV;rw[c2,r0,l1]<;>rfl
 refine AX [(1,V j l.length i),(3,Z (U m)),(5,Z (U m+1)),(6,V none 0 0),(20,V b x.ks.length a),(21,J ((x.ks.length:Int))),(22,J (((0:Nat):Int)))] λg3=>?_;refine Bp (by kernel_rfl) (λE p1=>∃(t:Nat) (d:List AM) (s:Option Addr) (r:Nat) (E0:Nat->Value),t<=x.ks.length/\E=BN E0 [(1,V s d.length r),(3,Z (U m)),(5,Z (U m+1)),(6,V none 0 0),(20,V b x.ks.length a),(21,J ((x.ks.length:Int))),(22,J ((t:Int)))]/\(FV f q ms p o l x)=EX f q ms p o x (List.drop t x.ks) d/\d.length+4*Hc (List.drop t x.ks)+4<=400000000/\Wk w p1 [N (U m) [V p0aaA p0aan p0aac,V p0abA p0abn p0abc,V p0acA p0acn p0acc,V p0adA p0adn p0adc,.map (some bi),.map (some bs),.map (some bp),.map (some br)] 87,N (U m+1) ((Ad x b a)) 70] [(Cw s r d)] L) (λE _=>x.ks.length-AP (E 22)) ⟨0,l,j,i,g3,Nat.zero_le _,rfl,z,by(rw[RQ]at hb;simp only[drop_zero];omega),a3⟩ ?_;clear z;rintro E p1 ⟨t,d,s,r,E0,x3,rfl,z,z0,z2⟩ j0;refine AC Q7 z2 [] λm3 a2=>?_;refine AH (decide ((t:Int)<(x.ks.length:Int))) (λk1=>?_) (λk1=>?_)
 ·have g0:t<x.ks.length:=by have:=of_decide_eq_true k1;omega
  obtain⟨e0,c0⟩:∃e,x.ks[t]?=some e:=⟨_,getElem?_eq_getElem g0⟩;rw[R4 t e0 c0]at z;obtain⟨k0,l0,rfl,t1,v1⟩:=y.all0 (by omega);obtain⟨t0,m0,r1,i1⟩:=v1 t _ c0;refine Ao Aa ly a2 [] λi2 z1=>?_;refine Aw (g:=k0) (off:=l0) (cap:=a) (sz:=10) (k:=t) (len:=x.ks.length) (some 24) g0 Tryz.underlying68 ?_;refine Bd 70 k0 (l0+t*10) _ (some 25) (Aj r1 t1 z1.B) ?_;refine An ACW [N (U m) [V p0aaA p0aan p0aac,V p0abA p0abn p0abc,V p0acA p0acn p0acc,V p0adA p0adn p0adc,.map (some bi),.map (some bs),.map (some bp),.map (some br)] 87,N (U m+1) ((Ad x (some ⟨k0,l0,none⟩) a)) 70,N (U i2) ((Ad e0 t0 m0)) 70] z1 [(2,0),(0,0),(2,0)] λh2 y1=>?_;have Kf:=(y1.pickL (L':=[(Cw s r d)]++[]) [0] rfl (by decide)).front;refine BL (n2 _ s d r e0 t0 m0 h2 i1 (h0 _ (mem_of_getElem? c0)) (by rw[Kk c0]at z0;simp only[Hc]at z0;omega) y1.B Kf) λen l3 hh=>?_;obtain⟨b0,a0,rfl,r2,Hn⟩:=hh;refine⟨_,rfl,?_⟩;have y2:=Wk.unfront r2 Hn;have u3:=Hw o2 d (k:=e0) (h0 _ (mem_of_getElem? c0));refine AC (Ab W2) y2 [] λg2 x2=>?_;refine AX [(1,V b0 ((AJ f d e0).length) a0),(3,Z (U m)),(5,Z (U m+1)),(6,V none 0 0),(20,V (some ⟨k0,l0,none⟩) x.ks.length a),(21,J ((x.ks.length:Int))),(22,J (IntKind.i64.wrap ((t:Int)+1)))] λf3=>?_;have w2:Wk w g2 [N (U m) [V p0aaA p0aan p0aac,V p0abA p0abn p0abc,V p0acA p0acn p0acc,V p0adA p0adn p0adc,.map (some bi),.map (some bs),.map (some bp),.map (some br)] 87,N (U m+1) ((Ad x (some ⟨k0,l0,none⟩) a)) 70] [(Cw b0 a0 (AJ f d e0))] L:=x2.pk [0,1] [0];rw[Bs t (by omega)];refine j0 _ _ ⟨t+1,(AJ f d e0),b0,a0,f3,g0,rfl,by rw[z]<;>rfl,by(rw[Kk c0]at z0;simp only[Hc]at z0;omega),w2⟩ ?_;show x.ks.length-AP (J ((t+1:Nat):Int))<x.ks.length-AP (J (t:Int));simp only[AP];omega
 have s1:t=x.ks.length:=by have:=of_decide_eq_false k1;omega
 rw[s1,drop_length,Sk]at z;refine AC W1 a2 [(0,0),(1,0)] λf2 d0=>?_;refine BL (Rd p0aaA p0aan p0aac p0abA p0abn p0abc p0acA p0acn p0acc p0adA p0adn p0adc bi q bs ms bp p br o x b a f2 (Ag.below g1 d0.B) (Ag.below d1 d0.B) (Ag.below f1 d0.B) (Ag.below e1 d0.B) (y.below d0.B) a1) λen q1 hh=>?_;obtain⟨rfl,q2⟩:=hh;refine⟨_,rfl,?_⟩;have v2:=d0.below q2;refine Bn BH W0 [N (U m) [V p0aaA p0aan p0aac,V p0abA p0abn p0abc,V p0acA p0acn p0acc,V p0adA p0adn p0adc,.map (some bi),.map (some bs),.map (some bp),.map (some br)] 87,N (U m+1) ((Ad x b a)) 70,N (U q1) [J (((BB q ms p o x)).1),J (((BB q ms p o x)).2.1),J (((BB q ms p o x)).2.2.1),J (((BB q ms p o x)).2.2.2.1),J (((BB q ms p o x)).2.2.2.2.1),J (((BB q ms p o x)).2.2.2.2.2)] 130] v2 [] λk3 v0=>?_;refine CD v0.H (v0.ix 0) (v0.at 0 rfl) (((BB q ms p o x))) [J (((BB q ms p o x)).1),J (((BB q ms p o x)).2.1),J (((BB q ms p o x)).2.2.1),J (((BB q ms p o x)).2.2.2.1),J (((BB q ms p o x)).2.2.2.2.1),J (((BB q ms p o x)).2.2.2.2.2)] rfl (U q1) (v0.ent 2 (by kernel_rfl)) (Cr W0) (by kernel_rfl) (.tmp 31) (.tmp 35) 48 (by kernel_rfl) (by kernel_rfl) (by kernel_rfl) (by decide) (by kernel_rfl) (by kernel_rfl) rfl rfl (by((try simp only[maxLen,D0,length_set,length_append,length_cons,length_nil,length_singleton])<;>omega)) λe2 x1 i3 Hn p2=>?_;have u2:=v0.put 0 (by simp) p2 Hn;refine AC ACV u2 [] λh3 m1=>?_;have hS:(FV f q ms p o l x)=d++[((BB q ms p o x))]:=by rw[z]<;>rfl
 exact AN m1 (0,0) (V e2 ((d++[((BB q ms p o x))]).length) x1) ⟨e2,x1,by rw[hS]<;>rfl,m1.B,by rw[hS];exact m1.own [0] rfl (by decide)⟩
end
end
end Go.Proofs.YtkpemkkbjfbmaaaGreat
namespace Go.Proofs.YtkpemkkbjfbmaaaGreat
open List
noncomputable section
open Go.RowKit
set_option maxRecDepth 100000
set_option maxHeartbeats 2000000
theorem Fj (A B:List AM) {n:Nat} (h:n<A.length) (v:Int):BA (A++B) n v=BA A n v++B:=by unfold BA;rw[getD_eq_getElem?_getD,getD_eq_getElem?_getD,getElem?_append_left h,set_append,if_pos h]
theorem HU (A:List AM) (a:AM) {n:Nat} (h:n=A.length) (v:Int):BA (A++[a]) n v=A++[(a.1,v,a.2.2)]:=by subst h;unfold BA;simp[getD_eq_getElem?_getD]
section
variable (f:Ex->Nat->List AM) (l:List AM) (x k0 k1 k2:Ex)
theorem Y9 (hop:x.op=18) (a:x.ks=[k0,k1,k2]):Jd f l k0 k1 k2=AJ (DI f) l x:=by
 unfold Jd AJ DI;rw[a,hop];generalize hu:((17,0,0,0,0,0):AM)=u;generalize hj:((16,0,0,0,0,0):AM)=j;generalize hc0:f k0 l.length=c0;have e:(l++c0++[u]).length=l.length+c0.length+1:=by simp<;>omega
 rw[e];show _=l++(f k0 l.length++[((17,((l.length+(f k0 l.length).length+1+(f k1 (l.length+(f k0 l.length).length+1)).length+1:Nat):Int),0,0,0,0):AM)]++f k1 (l.length+(f k0 l.length).length+1)++[((16,((l.length+(f k0 l.length).length+1+(f k1 (l.length+(f k0 l.length).length+1)).length+1+(f k2 (l.length+(f k0 l.length).length+1+(f k1 (l.length+(f k0 l.length).length+1)).length+1)).length:Nat):Int),0,0,0,0):AM)]++f k2 (l.length+(f k0 l.length).length+1+(f k1 (l.length+(f k0 l.length).length+1)).length+1));rw[hc0];generalize hc1:f k1 (l.length+c0.length+1)=c1;have d:(l++c0++[u]++c1++[j]).length=l.length+c0.length+1+c1.length+1:=by simp<;>omega
 rw[d,Fj (l++c0++[u]++c1) [j] (by simp<;>omega),Fj (l++c0++[u]) c1 (by simp<;>omega),HU (l++c0) u rfl];have c:(l++c0++[(u.1,((l.length+c0.length+1+c1.length+1:Nat):Int),u.2.2)]++c1++[j]).length=l.length+c0.length+1+c1.length+1:=by simp<;>omega
 rw[c];generalize hc2:f k2 (l.length+c0.length+1+c1.length+1)=c2;rw[Fj _ c2 (by simp<;>omega),HU _ j (by simp)];subst hu hj;have b:(l++c0++[(((17:Int),((l.length+c0.length+1+c1.length+1:Nat):Int),(0:Int),(0:Int),(0:Int),(0:Int)):AM)]++c1++[((16,0,0,0,0,0):AM)]++c2).length=l.length+c0.length+1+c1.length+1+c2.length:=by simp<;>omega
 rw[b];simp[append_assoc]
theorem YL (hop:x.op=12) (a:x.ks=[k0,k1]):I3 f l k0 k1=AJ (DI f) l x:=by
 unfold I3 AJ DI;rw[a,hop];generalize hu:((17,0,0,0,0,0):AM)=u;generalize hj:((16,0,0,0,0,0):AM)=j;generalize hc0:f k0 l.length=c0;have d:(l++c0++[u]).length=l.length+c0.length+1:=by simp<;>omega
 rw[d];show _=l++(f k0 l.length++[((17,((l.length+(f k0 l.length).length+1+(f k1 (l.length+(f k0 l.length).length+1)).length+1:Nat):Int),0,0,0,0):AM)]++f k1 (l.length+(f k0 l.length).length+1)++[((16,((l.length+(f k0 l.length).length+1+(f k1 (l.length+(f k0 l.length).length+1)).length+1+[Ah 0].length:Nat):Int),0,0,0,0):AM)]++[Ah 0]);rw[hc0];generalize hc1:f k1 (l.length+c0.length+1)=c1;have c:(l++c0++[u]++c1++[j]).length=l.length+c0.length+1+c1.length+1:=by simp<;>omega
 rw[c,Fj (l++c0++[u]++c1) [j] (by simp<;>omega),Fj (l++c0++[u]) c1 (by simp<;>omega),HU (l++c0) u rfl];generalize Ah 0=p;rw[Fj _ [p] (by simp<;>omega),HU _ j (by simp)];subst hu hj;have b:(l++c0++[(((17:Int),((l.length+c0.length+1+c1.length+1:Nat):Int),(0:Int),(0:Int),(0:Int),(0:Int)):AM)]++c1++[((16,0,0,0,0,0):AM)]++[p]).length=l.length+c0.length+1+c1.length+1+1:=by simp<;>omega
 rw[b];simp[append_assoc]
theorem Y8 (hop:x.op=13) (a:x.ks=[k0,k1]):Jc f l k0 k1=AJ (DI f) l x:=by
 unfold Jc AJ DI;rw[a,hop];generalize hu:((17,0,0,0,0,0):AM)=u;generalize hj:((16,0,0,0,0,0):AM)=j;show _=l++(f k0 l.length++[((17,((l.length+(f k0 l.length).length+1+[Ah 1].length+1:Nat):Int),0,0,0,0):AM)]++[Ah 1]++[((16,((l.length+(f k0 l.length).length+1+[Ah 1].length+1+(f k1 (l.length+(f k0 l.length).length+1+[Ah 1].length+1)).length:Nat):Int),0,0,0,0):AM)]++f k1 (l.length+(f k0 l.length).length+1+[Ah 1].length+1));generalize hc0:f k0 l.length=c0;generalize Ah 1=p;have d:(l++c0++[u]++[p]++[j]).length=l.length+c0.length+1+[p].length+1:=by simp<;>omega
 rw[d,Fj (l++c0++[u]++[p]) [j] (by simp<;>omega),Fj (l++c0++[u]) [p] (by simp<;>omega),HU (l++c0) u rfl];have c:(l++c0++[(u.1,((l.length+c0.length+1+[p].length+1:Nat):Int),u.2.2)]++[p]++[j]).length=l.length+c0.length+1+[p].length+1:=by simp<;>omega
 rw[c];generalize hc2:f k1 (l.length+c0.length+1+[p].length+1)=c2;rw[Fj _ c2 (by simp<;>omega),HU _ j (by simp)];subst hu hj;have b:(l++c0++[(((17:Int),((l.length+c0.length+1+[p].length+1:Nat):Int),(0:Int),(0:Int),(0:Int),(0:Int)):AM)]++[p]++[((16,0,0,0,0,0):AM)]++c2).length=l.length+c0.length+1+[p].length+1+c2.length:=by simp<;>omega
 rw[b];simp[append_assoc]
end
def DP (h:Nat) (x:Ex):Prop:=x.height<=h/\(∃q,Ft x q=true)/\EB x
theorem Jv {h:Nat} {x k:Ex} (hx:DP (h+1) x) (b:k∈x.ks):DP h k:=by
 obtain⟨i,hi⟩:=mem_iff_getElem?.1 b;refine⟨by have:=Rg hi;have:=hx.1;omega,?_,?_⟩
 ·obtain⟨q,a⟩:=hx.2.1
  cases x with
  | mk=>exact⟨q-1,NX (NY a).2 hi⟩
 have:=hx.2.2
 cases x with
 | mk=>exact Kb this.2.2 hi
theorem Xb {h:Nat} {x:Ex} (hx:DP h x):(x.ks.length:Int)=Cz x.op:=by
 obtain⟨q,a⟩:=hx.2.1
 cases x with
 | mk=>exact(NY a).1
theorem wc {h:Nat} {x:Ex} (hx:DP h x) (hop:x.op=18):∃k0 k1 k2,x.ks=[k0,k1,k2]:=by
 have:=Xb hx;rw[hop,show Cz 18=3 from rfl]at this
 match hk:x.ks,this with
 | [k0,k1,k2],_=>exact⟨k0,k1,k2,rfl⟩
 | [],h=>simp at h
 | [_],h=>simp at h
 | [_,_],h=>simp at h
 | _::_::_::_::_,h=>simp at h;omega
theorem Ue {h:Nat} {x:Ex} (hx:DP h x) (hop:x.op=12\/x.op=13):∃k0 k1,x.ks=[k0,k1]:=by
 have:=Xb hx;rw[show Cz x.op=2 by rcases hop with h | h<;>rw[h]<;>rfl]at this
 match hk:x.ks,this with
 | [k0,k1],_=>exact⟨k0,k1,rfl⟩
 | [],h=>simp at h
 | [_],h=>simp at h
 | _::_::_::_,h=>simp at h;omega
theorem TS {f:Ex->Nat->List AM}:∀(ks:List Ex) (n:Nat),(∀k∈ks,∀n,(f k n).length<=4*nE k)->(JM f ks n).length<=4*Hc ks
 | [],n,_=>by simp[JM]
 | k::ks,n,h=>by rw[JM,Hc,length_append];have b:=h k (by simp) n;have h2:=TS ks (n+(f k n).length) (λk a=>h k (by simp[a]));omega
theorem P6 (j ms i g:List (List UInt8×Int)):∀(h:Nat) (x:Ex) (n:Nat),DP h x->(Ai j ms i g h x n).length<=4*nE x
 | 0,x,n,_=>Nat.zero_le _
 | h+1,x,n,hx=>by
  have b:∀k∈x.ks,∀n,(Ai j ms i g h k n).length<=4*nE k:=λk o n=>P6 j ms i g h k n (Jv hx o);rw[Ai,RQ];generalize Ai j ms i g h=f at b;by_cases h18:x.op=18
  ·obtain⟨a,d,m,c⟩:=wc hx h18;rw[h18];show(DI f x n).length<=_;unfold DI;rw[c]at b ⊢;rw[h18];have a0:=b a (by simp) n;have l:=b d (by simp) (n+(f a n).length+1);have p:=b m (by simp) (n+(f a n).length+1+(f d (n+(f a n).length+1)).length+1);show(f a n++[_]++f d (n+(f a n).length+1)++[_]++f m (n+(f a n).length+1+(f d (n+(f a n).length+1)).length+1)).length<=_;simp only[length_append,length_singleton,Hc];omega
  by_cases h12:x.op=12
  ·obtain⟨a,d,c⟩:=Ue hx (.inl h12);rw[h12];show(DI f x n).length<=_;unfold DI;rw[c]at b ⊢;rw[h12];have a0:=b a (by simp) n;have l:=b d (by simp) (n+(f a n).length+1);show(f a n++[_]++f d (n+(f a n).length+1)++[_]++[Ah 0]).length<=_;simp only[length_append,length_singleton,Hc];omega
  by_cases h13:x.op=13
  ·obtain⟨a,d,c⟩:=Ue hx (.inr h13);rw[h13];show(DI f x n).length<=_;unfold DI;rw[c]at b ⊢;rw[h13];have a0:=b a (by simp) n;have l:=b d (by simp) (n+(f a n).length+1+[Ah 1].length+1);show(f a n++[_]++[Ah 1]++[_]++f d (n+(f a n).length+1+[Ah 1].length+1)).length<=_;simp only[length_append,length_singleton,Hc]at l ⊢;omega
  have e:(cond (x.op==18) true (cond (x.op==12) true (x.op==13)))=false:=by rw[beq_eq_false_iff_ne.2 h18,beq_eq_false_iff_ne.2 h12,beq_eq_false_iff_ne.2 h13];rfl
  rw[e];show(JM f x.ks n++[_]).length<=_;have:=TS x.ks n b;rw[length_append,length_singleton];omega
theorem NR {f:Ex->Nat->List AM} {d ms c b:List (List UInt8×Int)} {x:Ex}:∀(ks:List Ex) (a:List AM),EX f d ms c b x ks a=a++(JM f ks a.length++[BB d ms c b x])
 | [],a=>by rw[EX,JM];rfl
 | k::ks,a=>by rw[EX,NR ks,JM];unfold AJ;rw[length_append];simp[append_assoc]
theorem iF {c ms b a:List (List UInt8×Int)} {h:Nat} {l:List AM} {x:Ex}:FV (Ai c ms b a h) c ms b a l x=AJ (Ai c ms b a (h+1)) l x:=by
 unfold FV;rw[NR];unfold AJ;rw[Ai]
 cases x.op==18<;>cases x.op==12<;>cases x.op==13<;>rfl
section
variable {p0aaA:Option Addr} {p0aan:Nat} {p0aac:Nat} {p0abA:Option Addr} {p0abn:Nat} {p0abc:Nat} {p0acA:Option Addr} {p0acn:Nat} {p0acc:Nat} {p0adA:Option Addr} {p0adn:Nat} {p0adc:Nat} {bi:Nat} {mi:List (List UInt8×Int)} {bs:Nat} {ms:List (List UInt8×Int)} {bp:Nat} {mp:List (List UInt8×Int)} {br:Nat} {mr:List (List UInt8×Int)} {w:World}
theorem iC (t:Ag.at BW bi mi w) (q:Ag.at BW bs ms w) (s:Ag.at BW bp mp w) (r:Ag.at BW br mr w) {h:Nat} (a0:∀(L:List Th) (j:Option Addr) (l:List AM) (i:Nat) (x:Ex) (f:Option Addr) (g:Nat) (p:World),rowsEx w f x.ks->DP h x->l.length+4*nE x<=400000000->Below (U w) w p->AY (U w) p ([Cw j i l]++L)->Calls Tryz.prog 29 ([D [V p0aaA p0aan p0aac,V p0abA p0abn p0abc,V p0acA p0acn p0acc,V p0adA p0adn p0adc,.map (some bi),.map (some bs),.map (some bp),.map (some br)],V j l.length i,D (Ad x f g)]:List Value).toArray p λe w'=>∃(v:Option Addr) (u:Nat),e=.returned (V v (AJ (Ai mi ms mp mr h) l x).length u)/\Below (U w) w w'/\AY (U w) w' ([Cw v u (AJ (Ai mi ms mp mr h) l x)]++L)) {L:List Th} {j:Option Addr} {l:List AM} {i:Nat} {x:Ex} {f:Option Addr} {g:Nat} {p:World} (o:rowsEx w f x.ks) (hx:DP (h+1) x) (hop:(x.op==18)=true\/(x.op==12)=true\/(x.op==13)=true) (hb:l.length+4*nE x<=400000000) (B:Below (U w) w p) (H:AY (U w) p ([Cw j i l]++L)):Calls Tryz.prog 57 ([D [V p0aaA p0aan p0aac,V p0abA p0abn p0abc,V p0acA p0acn p0acc,V p0adA p0adn p0adc,.map (some bi),.map (some bs),.map (some bp),.map (some br)],V j l.length i,D (Ad x f g)]:List Value).toArray p λe w'=>∃(v:Option Addr) (u:Nat),e=.returned (V v (AJ (DI (Ai mi ms mp mr h)) l x).length u)/\Below (U w) w w'/\AY (U w) w' ([Cw v u (AJ (DI (Ai mi ms mp mr h)) l x)]++L):=by
 have b0:∀k n,DP h k->(Ai mi ms mp mr h k n).length<=4*nE k:=P6 mi ms mp mr h;rw[RQ]at hb;rcases hop with hop | hop | hop
 ·have c0:x.op=18:=eq_of_beq hop;obtain⟨z,y,k2,m⟩:=wc hx c0;have hg:∀k∈[z,y,k2],DP h k:=λk hk=>Jv hx (by rw[m];exact hk);rw[m]at o hb;simp only[Hc]at hb;have:=YK (DP h) L (Ai mi ms mp mr h) p0aaA p0aan p0aac p0abA p0abn p0abc p0acA p0acn p0acc p0adA p0adn p0adc bi mi bs ms bp mp br mr j l i x f z y k2 g w p t q s r o (λL j l i x f g p a b c d e=>a0 L j l i x f g p a b c d e) hg b0 (by omega) B H;rw[Y9 _ l x z y k2 c0 m]at this;rw[show Ad x f g=[J 18,J x.num,J x.den,J x.mu,J x.hu,J x.du,Y (x.nm),J x.cnt,J x.md,V f 3 g] by unfold Ad;rw[c0,m];rfl];exact this
 ·have e0:x.op=12:=eq_of_beq hop;obtain⟨z,y,m⟩:=Ue hx (.inl e0);have hg:∀k∈[z,y],DP h k:=λk hk=>Jv hx (by rw[m];exact hk);rw[m]at o hb;simp only[Hc]at hb;have:=Tw (DP h) L (Ai mi ms mp mr h) p0aaA p0aan p0aac p0abA p0abn p0abc p0acA p0acn p0acc p0adA p0adn p0adc bi mi bs ms bp mp br mr j l i x f z y g w p t q s r o (λL j l i x f g p a b c d e=>a0 L j l i x f g p a b c d e) hg b0 (by omega) B H;rw[YL _ l x z y e0 m]at this;rw[show Ad x f g=[J 12,J x.num,J x.den,J x.mu,J x.hu,J x.du,Y (x.nm),J x.cnt,J x.md,V f 2 g] by unfold Ad;rw[e0,m];rfl];exact this
 have d0:x.op=13:=eq_of_beq hop;obtain⟨z,y,m⟩:=Ue hx (.inr d0);have hg:∀k∈[z,y],DP h k:=λk hk=>Jv hx (by rw[m];exact hk);rw[m]at o hb;simp only[Hc]at hb;have:=YJ (DP h) L (Ai mi ms mp mr h) p0aaA p0aan p0aac p0abA p0abn p0abc p0acA p0acn p0acc p0adA p0adn p0adc bi mi bs ms bp mp br mr j l i x f z y g w p t q s r o (λL j l i x f g p a b c d e=>a0 L j l i x f g p a b c d e) hg b0 (by omega) B H;rw[Y8 _ l x z y d0 m]at this;rw[show Ad x f g=[J 13,J x.num,J x.den,J x.mu,J x.hu,J x.du,Y (x.nm),J x.cnt,J x.md,V f 2 g] by unfold Ad;rw[d0,m];rfl];exact this
theorem Xy (p:Ag.at BW bi mi w) (m:Ag.at BW bs ms w) (o:Ag.at BW bp mp w) (n:Ag.at BW br mr w):∀(h:Nat),∀(L:List Th) (j:Option Addr) (l:List AM) (i:Nat) (x:Ex) (f:Option Addr) (g:Nat) (q:World),rowsEx w f x.ks->DP h x->l.length+4*nE x<=400000000->Below (U w) w q->AY (U w) q ([Cw j i l]++L)->Calls Tryz.prog 29 ([D [V p0aaA p0aan p0aac,V p0abA p0abn p0abc,V p0acA p0acn p0acc,V p0adA p0adn p0adc,.map (some bi),.map (some bs),.map (some bp),.map (some br)],V j l.length i,D (Ad x f g)]:List Value).toArray q λe w'=>∃(s:Option Addr) (r:Nat),e=.returned (V s (AJ (Ai mi ms mp mr h) l x).length r)/\Below (U w) w w'/\AY (U w) w' ([Cw s r (AJ (Ai mi ms mp mr h) l x)]++L)
 | 0=>λL j l i x f g q _ hx=>by
  have:=hx.1
  cases x with
  | mk=>rw[Ex.height]at this;omega
 | h+1=>λL j l i x f g q u hx hb B H=>by
  have t:=Xy p m o n h;have:=ZB (DP h) L (Ai mi ms mp mr h) p0aaA p0aan p0aac p0abA p0abn p0abc p0acA p0acn p0acc p0adA p0adn p0adc bi mi bs ms bp mp br mr j l i x f g w q p m o n u (λL j l i x f g q a b c d e=>t L j l i x f g q a b c d e)
   (λL j l2 i x' f g q a v hop y B2 H2=>by subst v;exact iC p m o n t a hx hop y B2 H2) hx.2.2 (λk z=>Jv hx z) (P6 mi ms mp mr h) hb B H
  rw[iF]at this;exact this
theorem oL (h:Ag.at BW bi mi w) (d:Ag.at BW bs ms w) (g:Ag.at BW bp mp w) (f:Ag.at BW br mr w) (x:Ex) (a:Option Addr) (b:Nat) (k:rowsEx w a x.ks) (hx:DP x.height x) (hb:4*nE x<=400000000):Calls Tryz.prog 29 ([D [V p0aaA p0aan p0aac,V p0abA p0abn p0abc,V p0acA p0acn p0acc,V p0adA p0adn p0adc,.map (some bi),.map (some bs),.map (some bp),.map (some br)],V none 0 0,D (Ad x a b)]:List Value).toArray w λe w'=>∃(j:Option Addr) (i:Nat),e=.returned (V j (Ai mi ms mp mr x.height x 0).length i)/\Below (U w) w w'/\AY (U w) w' [Cw j i (Ai mi ms mp mr x.height x 0)]:=by have H:AY (U w) w ([Cw none 0 []]++[]):=(AY.nil (Nat.le_refl _)).addNil _ _ _;have:=Xy (p0aaA:=p0aaA) (p0aan:=p0aan) (p0aac:=p0aac) (p0abA:=p0abA) (p0abn:=p0abn) (p0abc:=p0abc) (p0acA:=p0acA) (p0acn:=p0acn) (p0acc:=p0acc) (p0adA:=p0adA) (p0adn:=p0adn) (p0adc:=p0adc) h d g f x.height [] none [] 0 x a b w k hx (by simpa using hb) (Below.refl _ _) H;refine this.mono λe w' l=>?_;obtain⟨A,c,n,h2,m⟩:=l;exact⟨A,c,n,h2,m⟩
end
def Cj:List UInt8:=[109,101,116,97,108]
def Fa:List Df:=[⟨1,[104],false,0,1,0,0,[],BU,0,0,0⟩,⟨1,[103],false,0,0,0,0,[],BU,0,0,0⟩,⟨1,[102],true,0,0,0,0,[],BU,0,0,0⟩,⟨5,[103,114,111,115,115],false,1,0,0,0,[],BU,0,0,0⟩,⟨5,[116,105,109,101],false,0,1,0,0,[],BU,0,0,0⟩]
def PE:List (List UInt8):=[[114,49],[114,50],[114,51],[114,52]]
def Gl:List Ty:=[CH,Cb,DB,BT]
def XO:List (List UInt8):=[[97],[98]]
def KB:List (Int×Int):=[(1,100),(1,20),(1,1)]
def GG (i:Nat) (frm:Int) (x:Ex):Df:=⟨3,PE.getD i [],(Gl.getD i BT).1,(Gl.getD i BT).2.1,(Gl.getD i BT).2.2.1,(Gl.getD i BT).2.2.2,frm,[],x,0,0,0⟩
def Ip (i:Nat) (x:Ex) (mode:Int) (q:Int×Int):Df:=⟨4,XO.getD i [],false,0,0,0,20454,[],x,mode,q.1,q.2⟩
inductive IZ (H:Nat) (wl:Bool):Df->Prop
 | ins (d:Df) (hd:d∈Fa):IZ H wl d
 | sc (nm:List UInt8) (t:Ty) (frm:Int) (es:List (Int×Int×Int)) (h:(nm=[119]/\t=CH)\/(nm=[115]/\t=BT)) (hf:frm=20454\/frm=20459) (he:FZ es):IZ H wl (Ci nm t frm es)
 | rule (i:Nat) (frm:Int) (x:Ex) (n:Int) (hi:i<4) (hf:frm=20454\/frm=20459) (hn:n=(i:Int)+1\/(wl=true/\n=5)) (hx:DL n H (Gl.getD i BT) x):IZ H wl (GG i frm x)
 | pay (i:Nat) (x:Ex) (mode:Int) (q:Int×Int) (hi:i<2) (h0:0<=mode) (h6:mode<=6) (hq:q∈KB) (hx:DL (4+(i:Int)) H Cb x):IZ H wl (Ip i x mode q)
abbrev Ep:=Df×List Value
def Oi (x:Ep) (r:List Value):Prop:=r=x.2/\r.length=21/\r.all (·.oneCell')=true
abbrev PV (A:Option Addr) (c:Nat) (xs:List Ep):Th:=Th.row 72 21 Oi A c xs
def Lq (G:Nat->Prop) (xs:List Ep):Th where
 F:=G
 P u:=∀x∈xs,Ff G u x.1 x.2
 fr u u' h hs hk:=λx hx=>(h x hx).keep hs λg hg hl=>⟨hg,hk g hg hl⟩
theorem Zj {S:Nat->Prop} {u:World} {x:Ep} (h:Ff S u x.1 x.2):Oi x x.2:=by refine⟨rfl,h.len,?_⟩;obtain⟨_,_,_,_,_,_,_,_,_,_,_,_,_,_,hc⟩:=h.cells;rw[hc];rfl
theorem ST {S:Nat->Prop} {w:World} {d:Df} {b:Option Addr} {a:Nat} (c:d.ents=[]) (h2:DD S w d.body (Ad d.body b a)):Ff S w d (CL d none 0 b a):=⟨none,0,_,h2,.inl (by rw[c];rfl),rfl⟩
theorem Gq.but {b lo:Nat} {c:Df->Prop} (hb:b<lo):∀v u a,CU b u a->Gq lo c v u->Gq lo c v a:=λv u a he ⟨d,k,i,j,h,f,h2,e⟩=>⟨d,k,i,j,h,f,h2,e.keep he.size λg hg hl=>⟨hg,he.block g hl (by omega)⟩⟩
theorem Xw {b:Nat} {ns:List Int} {lo:Nat} {a:Df->Prop} {u:World} (hl:lo<=(U u)) {e:Ending} {w':World} (c:DfP b ns a u e w'):∃v,e=.returned v/\Br b ns w'/\CU b u w'/\Gq lo a v w':=by obtain⟨v,rfl,⟨d,n,l,m,k,j,h2,i⟩,h,f⟩:=c;exact⟨_,rfl,h,f,d,n,l,m,k,j,h2,i.keep (Nat.le_refl _) λg hg _=>⟨Nat.le_trans hl hg,rfl⟩⟩
def Gx (lo k:Nat) (Q:List Df->Prop) (v:Value) (u:World):Prop:=∃(es:List Ep) (g:Nat),v=φ g k k/\es.length=k/\lo<=g/\Ax.good u (N g ((es.map (·.2)).flatten) 72)/\(∀x∈es,Ff (λg=>lo<=g) u x.1 x.2)/\Q (es.map (·.1))
theorem Gx.but {b lo k:Nat} {Q:List Df->Prop} (hb:b<lo):∀v u a,CU b u a->Gx lo k Q v u->Gx lo k Q v a:=λv u a he ⟨es,g,h,h2,f,c,e,d⟩=>⟨es,g,h,h2,f,FT c he.size (he.block g c.1 (by show g≠b;omega)),λx hx=>(e x hx).keep he.size λg hg hl=>⟨hg,he.block g hl (by omega)⟩,d⟩
theorem od {S a:Nat->Prop} {u:World} {d:Df} {cs:List Value} (h:Ff S u d cs\/Ff a u d cs):Ff (λk=>S k\/a k) u d cs:=by
 rcases h with h | h
 ·exact h.keep (Nat.le_refl _) λg hg _=>⟨.inl hg,rfl⟩
 exact h.keep (Nat.le_refl _) λg hg _=>⟨.inr hg,rfl⟩
theorem R5 {Q:Exit->Act->World->Prop} {ops:Array Oper} {n fuel:Nat} {E:Nat->Value} {d:Array Bool} {w0 w f u:World} {M:List Ax} {b:Nat} {ns:List Int} {A:Option Addr} {c:Nat} {xs o:List Ep} {G:Nat->Prop} (K:Wk w0 f M [BV w0 b ns,CI b w,PV A c xs,Lq G o] []) (hu:Wk w0 u M [BV w0 b ns,CI b w,PV A c xs,Lq G o] []) (es:List Ep) (g:Nat) (hg:Ax.good u (N g ((es.map (·.2)).flatten) 72)) (e:∀x∈es,Ff (λk=>f.heap.size<=k) u x.1 x.2) (hl:xs.length+es.length<=1000) (i s x:Nat)
  (q:∀y t w',Wk w0 w' M [BV w0 b ns,CI b w,PV y t (xs++es),Lq (λk=>G k\/(U f<=k/\k<(U u))) (o++es)] []->wpAny Tryz.prog .any ops Q fuel (d.setIfInBounds i true) (Fr n (A8 E (ops.getD i default).dst (V y (xs++es).length t))) w')
  (hs:BK n E (.tmp s)=V A xs.length c) (hx:BK n E (.tmp x)=φ g es.length es.length) (ho:(ops.getD i default).op=.call { callee:=.builtin .append,args:=#[.tmp s,.tmp x],argTypes:=#[25,25] })
  (hc:(Region.ready .any ops d,Nat.blt i ops.size,(ops.getD i default).guard)=([i],true,none)):wpAny Tryz.prog .any ops Q (fuel+1) d (Fr n E) u:=by
 have K2:=K.freshT hu (Lq (λk=>f.heap.size<=k/\k<(U u)) es) (λx hx=>(e x hx).keep (Nat.le_refl _) λg hg hl=>⟨⟨hg,hl⟩,rfl⟩) (λ_ q=>q);have v:Wk w0 u M [BV w0 b ns,CI b w,PV A c xs,Lq (λk=>G k\/(U f<=k/\k<(U u))) (o++es)] []:=K2.merge 3 (m:=Lq (λk=>G k\/(U f<=k/\k<(U u))) (o++es)) rfl (λx hx=>by
  rcases mem_append.1 hx with hx | hx
  ·exact od (.inl ((hu.H.all (hu.ix 3) _ (hu.at 3 rfl)) x hx))
  exact od (.inr ((e x hx).keep (Nat.le_refl _) λg hg hl=>⟨⟨hg,hl⟩,rfl⟩))) (λk q=>q)
 have p:∀l:List Ep,(∀x∈l,Ff (λk=>f.heap.size<=k) u x.1 x.2)->Dh Oi l (l.map (·.2)):=by
  intro l
  induction l with
  | nil=>intro _;trivial
  | cons a l ih=>intro h;exact⟨Zj (h a (by simp)),ih λx hx=>h x (by simp[hx])⟩
 have j:∀r∈es.map (·.2),r.length=21:=λr hr=>by obtain⟨x,hx,rfl⟩:=mem_map.1 hr;exact(e x hx).len
 obtain⟨y,t,z,hr,Hn,b6⟩:=az (ρ:=BK n E) v.H (v.ix 2) (v.at 2 rfl) es (es.map (·.2)) (p es e) ⟨g,0,none⟩ es.length (Mb (Db j hg) j) (ops.getD i default) (.tmp s) (.tmp x) 25 ho (by kernel_rfl) (by kernel_rfl) (by decide) hs hx j (λr hr=>by obtain⟨x,hx,rfl⟩:=mem_map.1 hr;exact(Zj (e x hx)).2.2) (by omega);exact bB i hr (q y t z (v.put 2 (by simp) b6 Hn)) hc
attribute [local irreducible] BI BQ AD AE AG Au Ab AO A8 Bi Ct BX EE EH DW BO At Fr
noncomputable def aU:Code:=Tryz.f5.body.getD .skip
def so:=ν [.code aU]
def sm:=Ψ so
def sl:=Ψ sm
def sk:=Ψ sl
def UF:=Ψ sk
def sj:=Ω UF
def co:=Ψ sj
def cl:=Θ co
def MZ:=Ξ co
def UE:=ν (AD (AD (AD (AD MZ))))
def V0:=ν (Au UE)
def j3:=Θ V0
def Vz:=Ψ j3
def Kv:=Ξ Vz
def j2:=ν (Au Kv)
def j1:=Ψ j2
def Vy:=Θ j1
def Qd:=Ξ V0
def jz:=ν (Au Qd)
def Vx:=Ψ jz
def Vw:=Θ Vx
def Vv:=Ξ Vx
def Vu:=Ψ Vv
def Vt:=ν (Au Vu)
def Qc:=Θ Vt
def Jo:=Ω Qc
def zQ:=Ξ Vt
abbrev FK (w:World) (A:Option Addr) (n c:Nat):List Ax:=[N (U w) [Y [],V none 0 0] 27,N (U w+1) [Y Cj,V A n c] 27]
abbrev KL (w:World) (A:Option Addr) (n c gN gT:Nat):List Ax:=[N (U w) [Y [],V none 0 0] 27,N (U w+1) [Y Cj,V A n c] 27,N gN [Y [114,49],Y [114,50],Y [114,51],Y [114,52]] 9,N gT ([BE CH,BE Cb,BE DB,BE BT].flatten) 65]
abbrev EO (w0:World) (b:Nat) (ns:List Int) (w:World) (A:Option Addr) (c:Nat) (xs:List Ep) (G:Nat->Prop) (ys:List Ep):List Th:=[BV w0 b ns,CI b w,PV A c xs,Lq G ys]
abbrev MQ (b H:Nat) (wl:Bool) (w:World):List (Nat×Value):=[(0,Z b),(1,J (H:Int)),(2,I wl),(6,Z (U w)),(7,Z (U w+1))]
abbrev Ui (b H:Nat) (wl:Bool) (w:World) (gN gT:Nat) (i:Int):List (Nat×Value):=[(0,Z b),(1,J (H:Int)),(2,I wl),(6,Z (U w)),(7,Z (U w+1)),(8,φ gN 4 4),(9,φ gT 4 4),(10,J i)]
abbrev Ik (b H:Nat) (wl:Bool) (w:World) (gN gT:Nat) (i n v:Int):List (Nat×Value):=[(0,Z b),(1,J (H:Int)),(2,I wl),(6,Z (U w)),(7,Z (U w+1)),(8,φ gN 4 4),(9,φ gT 4 4),(10,J i),(11,J n),(12,J v)]
abbrev Ke (b H:Nat) (w:World) (i:Int):List (Nat×Value):=[(0,Z b),(1,J (H:Int)),(6,Z (U w)),(7,Z (U w+1)),(13,J i)]
abbrev AC8 (b:Nat) (w:World):List (Nat×Value):=[(0,Z b),(6,Z (U w)),(7,Z (U w+1))]
abbrev HH (b:Nat) (w:World) (i:Int):List (Nat×Value):=[(0,Z b),(6,Z (U w)),(7,Z (U w+1)),(14,J i)]
section
variable {R:Ending->World->Prop} {b:Nat} {ns:List Int} {H:Nat} {wl:Bool} {w w0 w1:World} {A:Option Addr} {c:Nat} {xs ys:List Ep} {G:Nat->Prop} {E:Nat->Value}
theorem AGW (h0:(U w0)=b) (hl:xs.length<=100) (K:Wk w0 w1 (FK w A xs.length c) (EO w0 b ns w A c xs G ys) []) (hk:∀t s (es:List Ep) (G':Nat->Prop) (E:Nat->Value) w',(λds=>∃a f,ds=[Ci [119] CH 20454 a,Ci [115] BT 20454 f]/\FZ a/\FZ f) (es.map (·.1))->es.length=2->Wk w0 w' (FK w t (xs++es).length s) (EO w0 b ns w t s (xs++es) G' (ys++es)) []->At Tryz.prog 5 R (AO UF) (Fr 168 (BN E (MQ b H wl w))) w'):At Tryz.prog 5 R UF (Fr 168 (BN E (MQ b H wl w))) w1:=by
 have hb:b<(U w1):=(K.tapeOk h0 0 rfl).lt;refine FJ K h0 0 rfl [0,1,2,3,4,5,6,7,8] (FK w A xs.length c) [(1,1,1)] [(3,λv _=>v=D (BE CH)),(4,Gq (U w1) (λd=>∃es,d=Ci [119] CH 20454 es/\FZ es)),(6,λv _=>v=D (BE BT)),(7,Gq (U w1) (λd=>∃es,d=Ci [115] BT 20454 es/\FZ es)),(8,Gx (U w1) 2 (λds=>∃a f,ds=[Ci [119] CH 20454 a,Ci [115] BT 20454 f]/\FZ a/\FZ f))] 3 (λu hu=>hu.G) (λp q=>?_) (λp q X u hu i hf=>?_) λX u hu i hf=>?_
 ·simp only[mem_cons,not_mem_nil,or_false]at q;rcases q with rfl | rfl | rfl | rfl | rfl
  ·exact λ_ _ _ _ h=>h
  ·exact Gq.but hb
  ·exact λ_ _ _ _ h=>h
  ·exact Gq.but hb
  exact Gx.but (k:=2) (Q:=λds=>∃a f,ds=[Ci [119] CH 20454 a,Ci [115] BT 20454 f]/\FZ a/\FZ f) hb
 ·have r:=hu.tapeOk h0 0 rfl;simp only[mem_cons,not_mem_nil,or_false]at q;rcases q with rfl | rfl | rfl | rfl | rfl
  ·exact CF (xs:=[]) (args:=[]) (OQ r (Gv u)) rfl
  ·refine CF (g:=19) (xs:=[.tmp 31,.const (Y [119]),.tmp 32,.const (J 20454)]) (args:=[Z b,Y [119],X 3,J 20454]) ?_ rfl;rw[show X 3=D (BE CH)from hf 3 (by kernel_rfl) rfl];exact(W3 b ns [119] CH 20454 u r).mono λe w' hh=>Xw i.size hh
  ·exact CF (xs:=[]) (args:=[]) (OQ r (Hf u)) rfl
  ·refine CF (g:=19) (xs:=[.tmp 34,.const (Y [115]),.tmp 35,.const (J 20454)]) (args:=[Z b,Y [115],X 6,J 20454]) ?_ rfl;rw[show X 6=D (BE BT)from hf 6 (by kernel_rfl) rfl];exact(W3 b ns [115] BT 20454 u r).mono λe w' hh=>Xw i.size hh
  obtain⟨d,A1,c1,A2,c2,a,⟨s1,rfl,q1⟩,d1⟩:Gq (U w1) (λd=>∃es,d=Ci [119] CH 20454 es/\FZ es) (X 4) u:=hf 4 (by kernel_rfl) rfl;obtain⟨d',n,l,m,j,b0,⟨y,rfl,q2⟩,c0⟩:Gq (U w1) (λd=>∃es,d=Ci [115] BT 20454 es/\FZ es) (X 7) u:=hf 7 (by kernel_rfl) rfl;exact AL.over [(33,D (CL (Ci [119] CH 20454 s1) A1 c1 A2 c2)),(36,D (CL (Ci [115] BT 20454 y) n l m j))] ⟨Eq.trans (b:=X 4) (by kernel_rfl) a,Eq.trans (b:=X 7) (by kernel_rfl) b0,trivial⟩ (IB (λz=>φ z 2 2) (CL (Ci [119] CH 20454 s1) A1 c1 A2 c2++CL (Ci [115] BT 20454 y) n l m j) 72 (λw' o hg=>⟨r.below o,.of_below o,[(_,CL (Ci [119] CH 20454 s1) A1 c1 A2 c2),(_,CL (Ci [115] BT 20454 y) n l m j)],U u,rfl,rfl,i.size,by simpa using hg,λx hx=>by
    rcases mem_cons.1 hx with rfl | hx
    ·exact d1.keep o.size λg hg hl=>⟨hg,o.block g hl⟩
    rw[mem_singleton.1 hx];exact c0.keep o.size λg hg hl=>⟨hg,o.block g hl⟩,s1,y,rfl,q1,q2⟩) (by intro z;kernel_rfl))
 obtain⟨es,g,a,f,_,hg,a0,hq⟩:Gx (U w1) 2 (λds=>∃a f,ds=[Ci [119] CH 20454 a,Ci [115] BT 20454 f]/\FZ a/\FZ f) (X 8) u:=hf 8 (by simp) rfl;refine Bk ((MQ b H wl w)++[(30,V A xs.length c),(37,X 8)]) λE2=>?_;rw[a];refine R5 K hu es g hg a0 (by omega) 9 30 37 (λt s w6 K6=>?_) (by kernel_rfl) (by rw[f];kernel_rfl) (by kernel_rfl) (by kernel_rfl);refine EL K6 [(10,0,0),(11,1,1)] (λ_=>(FK w t (xs++es).length s)) λz w7 K7=>?_;refine AX (MQ b H wl w) λE7=>?_;exact hk t s es _ E7 w7 hq f K7
theorem AGV (o:(U w0)=b) (hl:xs.length<=100) (K:Wk w0 w1 (FK w A xs.length c) (EO w0 b ns w A c xs G ys) []) (hk:∀j i (es:List Ep) (G':Nat->Prop) (E:Nat->Value) w',(λds=>∃d,ds=[d]/\(λd=>∃es,d=Ci [119] CH 20459 es/\FZ es) d) (es.map (·.1))->es.length=1->Wk w0 w' (FK w j (xs++es).length i) (EO w0 b ns w j i (xs++es) G' (ys++es)) []->At Tryz.prog 5 R (AO cl) (Fr 168 (BN E (MQ b H wl w))) w'):At Tryz.prog 5 R cl (Fr 168 (BN E (MQ b H wl w))) w1:=by
 have hb:b<(U w1):=(K.tapeOk o 0 rfl).lt;refine FJ K o 0 rfl [0,1,2,3,4,5] (FK w A xs.length c) [(1,1,1)] [(3,λv _=>v=D (BE CH)),(4,Gq (U w1) (λd=>∃es,d=Ci [119] CH 20459 es/\FZ es)),(5,Gx (U w1) 1 (λds=>∃d,ds=[d]/\(λd=>∃es,d=Ci [119] CH 20459 es/\FZ es) d))] 3 (λu hu=>hu.G) (λp f=>?_) (λp f X u hu a hf=>?_) λX u hu a hf=>?_
 ·simp only[mem_cons,not_mem_nil,or_false]at f;rcases f with rfl | rfl | rfl
  ·exact λ_ _ _ _ h=>h
  ·exact Gq.but hb
  exact Gx.but (k:=1) (Q:=λds=>∃d,ds=[d]/\(λd=>∃es,d=Ci [119] CH 20459 es/\FZ es) d) hb
 ·have n:=hu.tapeOk o 0 rfl;simp only[mem_cons,not_mem_nil,or_false]at f;rcases f with rfl | rfl | rfl
  ·exact CF (xs:=[]) (args:=[]) (OQ n (Gv u)) rfl
  ·refine CF (g:=19) (xs:=[.tmp 45,.const (Y [119]),.tmp 46,.const (J 20459)]) (args:=[Z b,Y [119],X 3,J 20459]) ?_ rfl;rw[show X 3=D (BE CH)from hf 3 (by kernel_rfl) rfl];exact(W3 b ns [119] CH 20459 u n).mono λe w' hh=>Xw a.size hh
  obtain⟨d,y,s,t,r,q,p1,d1⟩:Gq (U w1) (λd=>∃es,d=Ci [119] CH 20459 es/\FZ es) (X 4) u:=hf 4 (by kernel_rfl) rfl;exact AL.over [(47,D (CL d y s t r))] ⟨Eq.trans (b:=X 4) (by kernel_rfl) q,trivial⟩ (IB (λz=>φ z 1 1) (CL d y s t r) 72 (λw' l hg=>⟨n.below l,.of_below l,[(d,CL d y s t r)],U u,rfl,rfl,a.size,by simpa using hg,λx hx=>by rw[mem_singleton.1 hx];exact d1.keep l.size λg hg hl=>⟨hg,l.block g hl⟩,d,rfl,p1⟩) (by intro z;kernel_rfl))
 obtain⟨es,g,q,e2,_,hg,m,hq⟩:Gx (U w1) 1 (λds=>∃d,ds=[d]/\(λd=>∃es,d=Ci [119] CH 20459 es/\FZ es) d) (X 5) u:=hf 5 (by simp) rfl;refine Bk ((MQ b H wl w)++[(44,V A xs.length c),(48,X 5)]) λE2=>?_;rw[q];refine R5 K hu es g hg m (by omega) 6 44 48 (λj i w6 K6=>?_) (by kernel_rfl) (by rw[e2];kernel_rfl) (by kernel_rfl) (by kernel_rfl);refine EL K6 [(7,0,0),(8,1,1)] (λ_=>(FK w j (xs++es).length i)) λz w7 K7=>?_;refine AX (MQ b H wl w) λE7=>?_;exact hk j i es _ E7 w7 hq e2 K7
theorem ACc:∀(i:Nat),i<4->([Y [114,49],Y [114,50],Y [114,51],Y [114,52]]:List Value)[i]?=some (Y (PE.getD i []))
 | 0,_ | 1,_ | 2,_ | 3,_=>rfl
 | _+4,h=>absurd h (by omega)
theorem ACd:∀(i:Nat),i<2->([Y [97],Y [98]]:List Value)[i]?=some (Y (XO.getD i []))
 | 0,_ | 1,_=>rfl
 | _+2,h=>absurd h (by omega)
theorem Uu:∀(i:Nat),i<4->Gl[i]?=some (Gl.getD i BT)/\Gl.getD i BT∈Ek
 | 0,_ | 1,_ | 2,_ | 3,_=>⟨rfl,by decide⟩
 | _+4,h=>absurd h (by omega)
theorem Ze {b:Nat} {ns:List Int} {n:Int} {H:Nat} (d:0<H) (c:H<=1000) {t:Ty} (e:t∈Ek) {u:World} (a:Br b ns u):Calls Tryz.prog 23 ([Z b,D (BE t),J (H:Int),J n]:List Value).toArray u (LY b ns n H t u):=by
 cases H with
 | zero=>exact absurd d (by omega)
 | succ h=>exact wk b ns n h t e (by omega) u a
theorem AC5 {i v:Nat} {n:Int} {f a:Nat} (hi:i<4) (hH:0<H) (b0:H<=1000) (h0:(U w0)=b) (hl:xs.length<=100) (K:Wk w0 w1 (KL w A xs.length c f a) (EO w0 b ns w A c xs G ys) []) (hk:∀A' y (es:List Ep) (G':Nat->Prop) (E:Nat->Value) w',(λds=>∃d,ds=[d]/\(λd=>∃x,d=GG i (IntKind.i64.wrap (20454+IntKind.i64.wrap (5*(v:Int)))) x/\DL n H (Gl.getD i BT) x) d) (es.map (·.1))->es.length=1->Wk w0 w' (KL w A' (xs++es).length y f a) (EO w0 b ns w A' y (xs++es) G' (ys++es)) []->At Tryz.prog 5 R (AO Vy) (Fr 168 (BN E (Ik b H wl w f a (i:Int) n (v:Int)))) w'):At Tryz.prog 5 R Vy (Fr 168 (BN E (Ik b H wl w f a (i:Int) n (v:Int)))) w1:=by
 have hb:b<(U w1):=(K.tapeOk h0 0 rfl).lt;refine FJ K h0 0 rfl [0,1,2,3,4,5,6,7,8,9,10,11,12,13,14,15,16,17,18,19,20,21,22] (KL w A xs.length c f a) [(1,1,1)] [(4,λv _=>v=.pointer (some ⟨f,0+i*1,none⟩)),(5,λv _=>v=Y (PE.getD i [])),(8,λv _=>v=.pointer (some ⟨a,0+i*4,none⟩)),(9,λv _=>v=D (BE (Gl.getD i BT))),(16,λv _=>v=.pointer (some ⟨a,0+i*4,none⟩)),(17,λv _=>v=D (BE (Gl.getD i BT))),(20,CO (U w1) n H (Gl.getD i BT)),(21,Gq (U w1) (λd=>∃x,d=GG i (IntKind.i64.wrap (20454+IntKind.i64.wrap (5*(v:Int)))) x/\DL n H (Gl.getD i BT) x)),(22,Gx (U w1) 1 (λds=>∃d,ds=[d]/\(λd=>∃x,d=GG i (IntKind.i64.wrap (20454+IntKind.i64.wrap (5*(v:Int)))) x/\DL n H (Gl.getD i BT) x) d))] 3 (λu hu=>hu.G) (λp s=>?_) (λp s X u hu l hf=>?_) λX u hu l hf=>?_
 ·simp only[mem_cons,not_mem_nil,or_false]at s;rcases s with rfl | rfl | rfl | rfl | rfl | rfl | rfl | rfl | rfl
  ·exact λ_ _ _ _ h=>h
  ·exact λ_ _ _ _ h=>h
  ·exact λ_ _ _ _ h=>h
  ·exact λ_ _ _ _ h=>h
  ·exact λ_ _ _ _ h=>h
  ·exact λ_ _ _ _ h=>h
  ·exact CO.but hb
  ·exact Gq.but hb
  exact Gx.but (k:=1) (Q:=λds=>∃d,ds=[d]/\(λd=>∃x,d=GG i (IntKind.i64.wrap (20454+IntKind.i64.wrap (5*(v:Int)))) x/\DL n H (Gl.getD i BT) x) d) hb
 ·have j:=hu.tapeOk h0 0 rfl;simp only[mem_cons,not_mem_nil,or_false]at s;rcases s with rfl | rfl | rfl | rfl | rfl | rfl | rfl | rfl | rfl
  ·exact AL.value (BJ (g:=f) (off:=0) (sz:=1) (k:=i) (len:=4) (cap:=4) 29 (.tmp 78) (.tmp 79) hi Tryz.underlying29) ⟨j,CU.refl b u,rfl⟩
  ·refine AL.loadOne 9 (.tmp 80) (by kernel_rfl) (Eq.trans (b:=X 4) (by kernel_rfl) (hf 4 (by kernel_rfl) rfl)) (v:=Y (PE.getD i [])) ?_ (Tryz.isAgg9 u) ⟨j,CU.refl b u,rfl⟩;have:=Py (hu.ent 2 rfl) i _ (ACc i hi);simpa using this
  ·exact AL.value (BJ (g:=a) (off:=0) (sz:=4) (k:=i) (len:=4) (cap:=4) 75 (.tmp 82) (.tmp 83) hi Tryz.underlying75) ⟨j,CU.refl b u,rfl⟩
  ·obtain⟨g',off,h1,_,h3⟩:=Cn.all (show Cn 4 (λq:Ty=>BE q) u (θ a) Gl from Db (λr hr=>by obtain⟨e,_,rfl⟩:=mem_map.1 hr;rfl) (hu.ent 3 rfl)) (by decide);obtain⟨rfl,rfl⟩:a=g'/\0=off:=by simpa using h1
   exact AL.loadMid 65 (.tmp 84) (by kernel_rfl) (Eq.trans (b:=X 8) (by kernel_rfl) (hf 8 (by kernel_rfl) rfl)) (BE (Gl.getD i BT)) (h3 i _ (Uu i hi).1) (by kernel_rfl) (by kernel_rfl) ⟨j,CU.refl b u,rfl⟩
  ·exact AL.value (BJ (g:=a) (off:=0) (sz:=4) (k:=i) (len:=4) (cap:=4) 75 (.tmp 90) (.tmp 91) hi Tryz.underlying75) ⟨j,CU.refl b u,rfl⟩
  ·obtain⟨g',off,h1,_,h3⟩:=Cn.all (show Cn 4 (λq:Ty=>BE q) u (θ a) Gl from Db (λr hr=>by obtain⟨e,_,rfl⟩:=mem_map.1 hr;rfl) (hu.ent 3 rfl)) (by decide);obtain⟨rfl,rfl⟩:a=g'/\0=off:=by simpa using h1
   exact AL.loadMid 65 (.tmp 92) (by kernel_rfl) (Eq.trans (b:=X 16) (by kernel_rfl) (hf 16 (by kernel_rfl) rfl)) (BE (Gl.getD i BT)) (h3 i _ (Uu i hi).1) (by kernel_rfl) (by kernel_rfl) ⟨j,CU.refl b u,rfl⟩
  ·refine CF (g:=23) (xs:=[.tmp 89,.tmp 93,.tmp 94,.tmp 95]) (args:=[Z b,X 17,J (H:Int),J n]) ?_ rfl;rw[show X 17=D (BE (Gl.getD i BT))from hf 17 (by kernel_rfl) rfl];exact(Ze hH b0 (Uu i hi).2 j).mono λe w' hh=>EN l.size hh
  ·obtain⟨x,o,m,t,g1,t1⟩:CO (U w1) n H (Gl.getD i BT) (X 20) u:=hf 20 (by kernel_rfl) rfl;exact AL.over [(81,Y (PE.getD i [])),(85,D (BE (Gl.getD i BT))),(96,D (Ad x o m))] ⟨Eq.trans (b:=X 5) (by kernel_rfl) (hf 5 (by kernel_rfl) rfl),Eq.trans (b:=X 9) (by kernel_rfl) (hf 9 (by kernel_rfl) rfl),Eq.trans (b:=X 20) (by kernel_rfl) t,trivial⟩ (AL.reads ⟨0,[],(0,0),[]⟩ (λe he=>by cases he) (D (CL (GG i (IntKind.i64.wrap (20454+IntKind.i64.wrap (5*(v:Int)))) x) none 0 o m)) ⟨j,CU.refl b u,GG i (IntKind.i64.wrap (20454+IntKind.i64.wrap (5*(v:Int)))) x,none,0,o,m,rfl,⟨x,rfl,g1⟩,ST rfl t1⟩)
  obtain⟨d,o,m,A2,c2,t,p1,d1⟩:Gq (U w1) (λd=>∃x,d=GG i (IntKind.i64.wrap (20454+IntKind.i64.wrap (5*(v:Int)))) x/\DL n H (Gl.getD i BT) x) (X 21) u:=hf 21 (by kernel_rfl) rfl;exact AL.over [(97,D (CL d o m A2 c2))] ⟨Eq.trans (b:=X 21) (by kernel_rfl) t,trivial⟩ (IB (λz=>φ z 1 1) (CL d o m A2 c2) 72 (λw' hB hg=>⟨j.below hB,.of_below hB,[(d,CL d o m A2 c2)],U u,rfl,rfl,l.size,by simpa using hg,λx hx=>by rw[mem_singleton.1 hx];exact d1.keep hB.size λg hg hl=>⟨hg,hB.block g hl⟩,d,rfl,p1⟩) (by intro z;kernel_rfl))
 obtain⟨es,g,t,e2,_,hg,a0,hq⟩:Gx (U w1) 1 (λds=>∃d,ds=[d]/\(λd=>∃x,d=GG i (IntKind.i64.wrap (20454+IntKind.i64.wrap (5*(v:Int)))) x/\DL n H (Gl.getD i BT) x) d) (X 22) u:=hf 22 (by simp) rfl;refine Bk ((Ik b H wl w f a (i:Int) n (v:Int))++[(77,V A xs.length c),(98,X 22)]) λE2=>?_;rw[t];refine R5 K hu es g hg a0 (by omega) 23 77 98 (λA' y w6 K6=>?_) (by kernel_rfl) (by rw[e2];kernel_rfl) (by kernel_rfl) (by kernel_rfl);refine EL K6 [(24,0,0),(25,1,1)] (λ_=>(KL w A' (xs++es).length y f a)) λz w7 K7=>?_;refine AX (Ik b H wl w f a (i:Int) n (v:Int)) λE7=>?_;exact hk A' y es _ E7 w7 hq e2 K7
theorem AC4 {i:Nat} {gN gT:Nat} (hi:i<2) (hH:0<H) (hH2:H<=1000) (h0:w0.heap.size=b) (hl:xs.length<=100) (K:Wk w0 w1 (KL w A xs.length c gN gT) (EO w0 b ns w A c xs G ys) []) (hk:∀A' c' (es:List Ep) (G':Nat->Prop) (E:Nat->Value) w',(λds=>∃d,ds=[d]/\(λd=>∃x mode q,d=Ip i x mode q/\0<=mode/\mode<=6/\q∈KB/\DL (IntKind.i64.wrap (4+(i:Int))) H Cb x) d) (es.map (·.1))->es.length=1->Wk w0 w' (KL w A' (xs++es).length c' gN gT) (EO w0 b ns w A' c' (xs++es) G' (ys++es)) []->At Tryz.prog 5 R (AO Vw) (Fr 168 (BN E (Ke b H w (i:Int)))) w'):At Tryz.prog 5 R Vw (Fr 168 (BN E (Ke b H w (i:Int)))) w1:=by
 have hb:b<w1.heap.size:=(K.tapeOk h0 0 rfl).lt;refine FJ K h0 0 rfl [0,1,2,3,4,5,6,7,8,9,10,11,12,13,14,15,16,17,18,19,20,21,22,23] (KL w A xs.length c gN gT) [(1,1,1)] [(2,Fm b [.string ⟨⟨[97]⟩⟩,.string ⟨⟨[98]⟩⟩] 9 2),(4,λv u=>∃g,v=.pointer (some ⟨g,0+i*1,none⟩)/\g≠b/\Ax.good u ⟨g,0,[.string ⟨⟨[97]⟩⟩,.string ⟨⟨[98]⟩⟩],9,true⟩),(5,λv _=>v=.string ⟨⟨XO.getD i []⟩⟩),(7,λv _=>v=.agg ⟨BE Cb⟩),(11,CO w1.heap.size (IntKind.i64.wrap (4+(i:Int))) H Cb),(13,KC 7),(17,Fm b [J 1,J 100,J 1,J 20,J 1,J 1] 47 3),(19,KC 3),(20,λv u=>∃g k,v=.pointer (some ⟨g,0+k*2,none⟩)/\k<3/\g≠b/\Ax.good u ⟨g,0,[J 1,J 100,J 1,J 20,J 1,J 1],47,true⟩),(21,λv _=>∃q∈KB,v=.agg ⟨[J q.1,J q.2]⟩),(22,Gq w1.heap.size (λd=>∃x mode q,d=Ip i x mode q/\0<=mode/\mode<=6/\q∈KB/\DL (IntKind.i64.wrap (4+(i:Int))) H Cb x)),(23,Gx w1.heap.size 1 (λds=>∃d,ds=[d]/\(λd=>∃x mode q,d=Ip i x mode q/\0<=mode/\mode<=6/\q∈KB/\DL (IntKind.i64.wrap (4+(i:Int))) H Cb x) d))] 3 (λu hu=>hu.G) (λp hp=>?_) (λp hp X u hu hbu hf=>?_) λX u hu hbu hf=>?_
 ·simp only[mem_cons,not_mem_nil,or_false]at hp;rcases hp with rfl | rfl | rfl | rfl | rfl | rfl | rfl | rfl | rfl | rfl | rfl | rfl
  ·exact Fm.but
  ·exact λv u u' he ⟨g,h1,h2,h3⟩=>⟨g,h1,h2,FT h3 he.size (he.block g h3.1 h2)⟩
  ·exact λ_ _ _ _ h=>h
  ·exact λ_ _ _ _ h=>h
  ·exact CO.but hb
  ·exact λ_ _ _ _ h=>h
  ·exact Fm.but
  ·exact λ_ _ _ _ h=>h
  ·exact λv u u' he ⟨g,k,a1,a2,a3,a4⟩=>⟨g,k,a1,a2,a3,FT a4 he.size (he.block g a4.1 a3)⟩
  ·exact λ_ _ _ _ h=>h
  ·exact Gq.but hb
  exact Gx.but (k:=1) (Q:=λds=>∃d,ds=[d]/\(λd=>∃x mode q,d=Ip i x mode q/\0<=mode/\mode<=6/\q∈KB/\DL (IntKind.i64.wrap (4+(i:Int))) H Cb x) d) hb
 ·have hT:=hu.tapeOk h0 0 rfl;simp only[mem_cons,not_mem_nil,or_false]at hp;rcases hp with rfl | rfl | rfl | rfl | rfl | rfl | rfl | rfl | rfl | rfl | rfl | rfl
  ·exact IB (λz=>.slice (some ⟨z,0,none⟩) 2 2) [.string ⟨⟨[97]⟩⟩,.string ⟨⟨[98]⟩⟩] 9 (λw' hB hg=>⟨hT.below hB,.of_below hB,u.heap.size,rfl,Nat.ne_of_gt hT.lt,hg⟩) (by intro z;kernel_rfl)
  ·obtain⟨g,e1,e2,e3⟩:Fm b [.string ⟨⟨[97]⟩⟩,.string ⟨⟨[98]⟩⟩] 9 2 (X 2) u:=hf 2 (by kernel_rfl) rfl;exact AL.value (BJ (g:=g) (off:=0) (sz:=1) (k:=i) (len:=2) (cap:=2) 29 (.tmp 109) (.tmp 110) (hx:=(Eq.trans (b:=X 2) (by kernel_rfl) e1)) hi Tryz.underlying29) ⟨hT,CU.refl b u,g,rfl,e2,e3⟩
  ·obtain⟨g,e1,e2,e3⟩:∃g,X 4=.pointer (some ⟨g,0+i*1,none⟩)/\g≠b/\Ax.good u ⟨g,0,[.string ⟨⟨[97]⟩⟩,.string ⟨⟨[98]⟩⟩],9,true⟩:=hf 4 (by kernel_rfl) rfl;refine AL.loadOne 9 (.tmp 111) (by kernel_rfl) (Eq.trans (b:=X 4) (by kernel_rfl) e1) (v:=.string ⟨⟨XO.getD i []⟩⟩) ?_ (Tryz.isAgg9 u) ⟨hT,CU.refl b u,rfl⟩;have:=Py e3 i _ (ACd i hi);simpa using this
  ·exact CF (xs:=[]) (args:=[]) (OQ hT (Gw u)) rfl
  ·refine CF (g:=23) (xs:=[.tmp 113,.tmp 114,.tmp 115,.tmp 117]) (args:=[.pointer (some ⟨b,0,none⟩),X 7,J (H:Int),J (IntKind.i64.wrap (4+(i:Int)))]) ?_ rfl;rw[show X 7=.agg ⟨BE Cb⟩from hf 7 (by kernel_rfl) rfl];exact(Ze hH hH2 (by decide) hT).mono λe w' hh=>EN hbu.size hh
  ·exact CF (xs:=[.tmp 119,.const (J 7)]) (args:=[.pointer (some ⟨b,0,none⟩),J 7]) ((Be b ns 7 u hT (by omega) (by omega)).mono λe w' ⟨y,q1,q2,q3,q4⟩=>⟨_,q2,q3,q4,y,by omega,rfl⟩) rfl
  ·exact IB (λz=>.slice (some ⟨z,0,none⟩) 3 3) [J 1,J 100,J 1,J 20,J 1,J 1] 47 (λw' hB hg=>⟨hT.below hB,.of_below hB,u.heap.size,rfl,Nat.ne_of_gt hT.lt,hg⟩) (by intro z;kernel_rfl)
  ·exact CF (xs:=[.tmp 125,.const (J 3)]) (args:=[.pointer (some ⟨b,0,none⟩),J 3]) ((Be b ns 3 u hT (by omega) (by omega)).mono λe w' ⟨y,q1,q2,q3,q4⟩=>⟨_,q2,q3,q4,y,by omega,rfl⟩) rfl
  ·obtain⟨g,e1,e2,e3⟩:Fm b [J 1,J 100,J 1,J 20,J 1,J 1] 47 3 (X 17) u:=hf 17 (by kernel_rfl) rfl;obtain⟨k,e4,e5⟩:KC 3 (X 19) u:=hf 19 (by kernel_rfl) rfl;exact AL.value (BJ (g:=g) (off:=0) (sz:=2) (k:=k) (len:=3) (cap:=3) 45 (.tmp 124) (.tmp 126) (hx:=(Eq.trans (b:=X 17) (by kernel_rfl) e1)) (hi:=(Eq.trans (b:=X 19) (by kernel_rfl) e5)) e4 Tryz.underlying45) ⟨hT,CU.refl b u,g,k,rfl,e4,e2,e3⟩
  ·obtain⟨g,k,e1,e2,e3,e4⟩:∃g k,X 20=.pointer (some ⟨g,0+k*2,none⟩)/\k<3/\g≠b/\Ax.good u ⟨g,0,[J 1,J 100,J 1,J 20,J 1,J 1],47,true⟩:=hf 20 (by kernel_rfl) rfl;obtain⟨q,hq⟩:∃q,KB[k]?=some q:=⟨_,getElem?_eq_getElem e2⟩;obtain⟨g',off,h1,_,h3⟩:=Cn.all (show Cn 2 (λq:Int×Int=>[J q.1,J q.2]) u (some ⟨g,0,none⟩) KB from Db (λr hr=>by obtain⟨e,_,rfl⟩:=mem_map.1 hr;rfl) e4) (by decide);obtain⟨rfl,rfl⟩:g=g'/\0=off:=by simpa using h1
   exact AL.loadMid 47 (.tmp 127) (by kernel_rfl) (Eq.trans (b:=X 20) (by kernel_rfl) e1) [J q.1,J q.2] (h3 k q hq) (by kernel_rfl) (by kernel_rfl) ⟨hT,CU.refl b u,q,mem_of_getElem? hq,rfl⟩
  ·obtain⟨x,A1,c1,e1,g1,t1⟩:CO w1.heap.size (IntKind.i64.wrap (4+(i:Int))) H Cb (X 11) u:=hf 11 (by kernel_rfl) rfl;obtain⟨k,hk7,e2⟩:KC 7 (X 13) u:=hf 13 (by kernel_rfl) rfl;obtain⟨q,hq,e3⟩:∃q∈KB,X 21=.agg ⟨[J q.1,J q.2]⟩:=hf 21 (by kernel_rfl) rfl;exact AL.over [(112,.string ⟨⟨XO.getD i []⟩⟩),(118,.agg ⟨Ad x A1 c1⟩),(120,J (k:Int)),(128,.agg ⟨[J q.1,J q.2]⟩)] ⟨Eq.trans (b:=X 5) (by kernel_rfl) (hf 5 (by kernel_rfl) rfl),Eq.trans (b:=X 11) (by kernel_rfl) e1,Eq.trans (b:=X 13) (by kernel_rfl) e2,Eq.trans (b:=X 21) (by kernel_rfl) e3,trivial⟩ (AL.reads ⟨0,[],(0,0),[]⟩ (λe he=>by cases he) (.agg ⟨CL (Ip i x (k:Int) q) none 0 A1 c1⟩) ⟨hT,CU.refl b u,Ip i x (k:Int) q,none,0,A1,c1,rfl,⟨x,(k:Int),q,rfl,by omega,by omega,hq,g1⟩,ST rfl t1⟩)
  obtain⟨d,A1,c1,A2,c2,e1,p1,d1⟩:Gq w1.heap.size (λd=>∃x mode q,d=Ip i x mode q/\0<=mode/\mode<=6/\q∈KB/\DL (IntKind.i64.wrap (4+(i:Int))) H Cb x) (X 22) u:=hf 22 (by kernel_rfl) rfl;exact AL.over [(129,.agg ⟨CL d A1 c1 A2 c2⟩)] ⟨Eq.trans (b:=X 22) (by kernel_rfl) e1,trivial⟩ (IB (λz=>.slice (some ⟨z,0,none⟩) 1 1) (CL d A1 c1 A2 c2) 72 (λw' hB hg=>⟨hT.below hB,.of_below hB,[(d,CL d A1 c1 A2 c2)],u.heap.size,rfl,rfl,hbu.size,by simpa using hg,λx hx=>by rw[mem_singleton.1 hx];exact d1.keep hB.size λg hg hl=>⟨hg,hB.block g hl⟩,d,rfl,p1⟩) (by intro z;kernel_rfl))
 obtain⟨es,g,e1,e2,_,hg,hes,hq⟩:Gx w1.heap.size 1 (λds=>∃d,ds=[d]/\(λd=>∃x mode q,d=Ip i x mode q/\0<=mode/\mode<=6/\q∈KB/\DL (IntKind.i64.wrap (4+(i:Int))) H Cb x) d) (X 23) u:=hf 23 (by simp) rfl;refine Bk ((Ke b H w (i:Int))++[(108,.slice A xs.length c),(130,X 23)]) λE2=>?_;rw[e1];refine R5 K hu es g hg hes (by omega) 24 108 130 (λA' c' w6 K6=>?_) (by kernel_rfl) (by rw[e2];kernel_rfl) (by kernel_rfl) (by kernel_rfl);refine EL K6 [(25,0,0),(26,1,1)] (λ_=>(KL w A' (xs++es).length c' gN gT)) λz w7 K7=>?_;refine AX (Ke b H w (i:Int)) λE7=>?_;exact hk A' c' es _ E7 w7 hq e2 K7
end
end
end Go.Proofs.YtkpemkkbjfbmaaaGreat

/- Contracts of functions, part 25. -/
import Derived.Test.YtkpemkkbjfbmaaaGreatMc24
set_option linter.all false
namespace Go.Proofs.YtkpemkkbjfbmaaaGreat
open List
noncomputable section
open Go.RowKit
set_option maxRecDepth 100000
set_option maxHeartbeats 1000000
attribute [local irreducible] BI BQ AD AE AG Au Ab AO A8 Bi Ct BX BO At Fr
def Do (p0:Int) (p1a:Int) (p1b:Int):List Int:=cond (p1a==16) ([p1b]) (cond (p1a==17) ([IntKind.i64.wrap (p0+1),p1b]) ([IntKind.i64.wrap (p0+1)]))
noncomputable def al:Code:=Tryz.f101.body.getD .skip
def fH:=ν ([.code al])
def vZ:=Θ fH
def AFj:=ν (vZ)
def fG:=Ξ fH
def vY:=Θ fG
def AFi:=ν (vY)
def vX:=Ξ fG
def AFh:=ν (vX)
theorem Yc (h b a f d j i:Int) (w:World):Calls Tryz.prog 101 ([J h,D [J b,J a,J f,J d,J j,J i]]:List Value).toArray w λe w'=>∃(p:Option Addr) (o:Nat),e=.returned (V p ((Do h b a).length) o)/\Below (U w) w w'/\AY (U w) w' [H7 p o (Do h b a)]:=by
 refine AS (fn:=Tryz.f101) (c:=al) (n:=22) ?_;have K1:=Wk.start w;refine Ar fH K1 [(0,0)] λq K2=>?_;refine AH (b==16) (λs=>?_) (λs=>?_)
 ·refine An vZ [N (U w) [J b,J a,J f,J d,J j,J i] 130,N (U q) [J a] 3] K2 [(0,1)] λw3 K3=>?_;have K4:=K3.entRows 1 (g:=(U q)) (ε:=3) (n:=1) (λe r=>r=KD e) [a] [[J a]] (by repeat (first | exact trivial | refine⟨rfl,?_⟩)) rfl rfl (by simp) (by kernel_rfl);refine AC AFj K4 [] λw4 v=>?_;have l:(Do h b a)=([a]):=by unfold Do;rw[s]<;>rfl
  exact AN v (0,0) (V (some ⟨U q,0,none⟩) 1 1) ⟨(some ⟨U q,0,none⟩),1,by rw[l]<;>rfl,v.B,by rw[l];exact v.own0 [0] rfl (by decide)⟩
 refine AC fG K2 [] λk z=>?_;refine AH (b==17) (λt=>?_) (λt=>?_)
 ·refine An vY [N (U w) [J b,J a,J f,J d,J j,J i] 130,N (U k) [J (IntKind.i64.wrap (h+1)),J a] 3] z [(0,1)] λw7 K7=>?_;have K8:=K7.entRows 1 (g:=(U k)) (ε:=3) (n:=1) (λe r=>r=KD e) [IntKind.i64.wrap (h+1),a] [[J (IntKind.i64.wrap (h+1))],[J a]] (by repeat (first | exact trivial | refine⟨rfl,?_⟩)) rfl rfl (by simp) (by kernel_rfl);refine AC AFi K8 [] λw8 u=>?_;have l:(Do h b a)=([IntKind.i64.wrap (h+1),a]):=by unfold Do;rw[s,t]<;>rfl
  exact AN u (0,0) (V (some ⟨U k,0,none⟩) 2 2) ⟨(some ⟨U k,0,none⟩),2,by rw[l]<;>rfl,u.B,by rw[l];exact u.own0 [0] rfl (by decide)⟩
 refine An vX [N (U w) [J b,J a,J f,J d,J j,J i] 130,N (U k) [J (IntKind.i64.wrap (h+1))] 3] z [] λw9 y=>?_;have x:=y.entRows 1 (g:=(U k)) (ε:=3) (n:=1) (λe r=>r=KD e) [IntKind.i64.wrap (h+1)] [[J (IntKind.i64.wrap (h+1))]] (by repeat (first | exact trivial | refine⟨rfl,?_⟩)) rfl rfl (by simp) (by kernel_rfl);refine AC AFh x [] λa0 m=>?_;have l:(Do h b a)=([IntKind.i64.wrap (h+1)]):=by unfold Do;rw[s,t]<;>rfl
 exact AN m (0,0) (V (some ⟨U k,0,none⟩) 1 1) ⟨(some ⟨U k,0,none⟩),1,by rw[l]<;>rfl,m.B,by rw[l];exact m.own0 [0] rfl (by decide)⟩
def JI (cs:List AM):Prop:=∀(i:Nat) (x:AM),cs[i]?=some x->x.1=16\/x.1=17->(i:Int)<x.2.1/\x.2.1<=(cs.length:Int)
def BZ (i:Nat) (x:AM):List Nat:=(Do (i:Int) x.1 x.2.1).map Int.toNat
theorem Uw (i:Nat) (x:AM):(BZ i x).length<=2:=by
 unfold BZ Do;rw[length_map]
 cases x.1==16<;>cases x.1==17<;>simp
theorem O4 {cs:List AM} (h:JI cs) (hl:cs.length<=4294967296) {i:Nat} {x:AM} (hi:cs[i]?=some x):∀t∈Do (i:Int) x.1 x.2.1,0<=t/\t<(cs.length:Int)+1:=λt ht=>by
 have b:i<cs.length:=(List.getElem?_eq_some_iff.1 hi).1;have a:=h i x hi;unfold Do at ht;rw[IntWalk.i64_in ((i:Int)+1) (by omega)]at ht
 cases h16:(x.1==16)<;>rw[h16]at ht
 ·cases h17:(x.1==17)<;>rw[h17]at ht
  ·simp only[cond_false,mem_singleton]at ht;omega
  have:=a (.inr (by simpa using h17));simp only[cond_false,cond_true,mem_cons,not_mem_nil,or_false]at ht;omega
 have:=a (.inl (by simpa using h16));simp only[cond_true,mem_singleton]at ht;omega
theorem HS {cs:List AM} (h:JI cs) (hl:cs.length<=4294967296) {i:Nat} {x:AM} (hi:cs[i]?=some x):∀t∈BZ i x,t<cs.length+1:=λt ht=>by obtain⟨z,hz,rfl⟩:=mem_map.1 ht;have:=O4 h hl hi z hz;omega
theorem Ux {cs:List AM} (h:JI cs) (hl:cs.length<=4294967296) {i:Nat} {x:AM} (hi:cs[i]?=some x) (w:World):Calls Tryz.prog 101 ([J (i:Int),D (FR x)]:List Value).toArray w λe w'=>∃(A:Option Addr) (c:Nat),e=.returned (V A (BZ i x).length c)/\Below (U w) w w'/\AY (U w) w' [Bc A c (BZ i x)]:=by refine(Yc (i:Int) x.1 x.2.1 x.2.2.1 x.2.2.2.1 x.2.2.2.2.1 x.2.2.2.2.2 w).mono λe w' a=>?_;obtain⟨A,c,rfl,B,H⟩:=a;refine⟨A,c,by unfold BZ;rw[length_map],B,H.natRow (BZ i x) ?_ 0 rfl⟩;unfold BZ;rw[map_map];refine(map_id _).symm.trans (map_congr_left λt ht=>?_);have:=(O4 h hl hi t ht).1;show t=((t.toNat:Nat):Int);omega
def Cv (a1_0:List Int) (e1:AM) (i1:Nat) (k2:(List Int)->Bool):List (Nat)->List Int->Bool
 | [],a2_0=>k2 a2_0
 | e2::tl,a2_0=>cond (cond (!((a2_0.getD e2 default) == -1)) (!((a2_0.getD e2 default)==IntKind.i64.wrap ((IntKind.i64.wrap ((a1_0.getD i1 default)-((Af e1.1).1)))+((Af e1.1).2)))) (false)) (false) (Cv a1_0 e1 i1 k2 tl ((a2_0.set e2 (IntKind.i64.wrap ((IntKind.i64.wrap ((a1_0.getD i1 default)-((Af e1.1).1)))+((Af e1.1).2))))))
theorem P9 {b:List Int} {e:AM} {d:Nat} {c:(List Int)->Bool} {a:List Int}:Cv b e d c [] a=(c a):=by rw[Cv]
theorem O1 {b:List Int} {c:AM} {e:Nat} {f:(List Int)->Bool} {a:List Int} {es:List (Nat)} (i d:Nat) (hi:es[i]?=some d):Cv b c e f (es.drop i) a=(cond (cond (!((a.getD d default) == -1)) (!((a.getD d default)==IntKind.i64.wrap ((IntKind.i64.wrap ((b.getD e default)-((Af c.1).1)))+((Af c.1).2)))) (false)) (false) (Cv b c e f (es.drop (i+1)) ((a.set d (IntKind.i64.wrap ((IntKind.i64.wrap ((b.getD e default)-((Af c.1).1)))+((Af c.1).2))))))):=by have hl:i<es.length:=(List.getElem?_eq_some_iff.1 hi).1;have he:es[i]=d:=(List.getElem?_eq_some_iff.1 hi).2;rw[<-getElem_cons_drop hl,Cv]<;>(try rw[he])
def CT (cs:List (AM)):List (AM)->Nat->List Int->Bool
 | [],i1,a1_0=>(a1_0.getD cs.length default)==1
 | e1::tl,i1,a1_0=>cond (cond ((a1_0.getD i1 default) == -1) (true) (decide ((a1_0.getD i1 default)<(Af e1.1).1))) (false) (cond (decide (64<IntKind.i64.wrap ((IntKind.i64.wrap ((a1_0.getD i1 default)-((Af e1.1).1)))+((Af e1.1).2)))) (false) (Cv a1_0 e1 i1 (λ(a2_0:List Int)=>CT cs tl (i1+1) a2_0) (BZ i1 e1) a1_0))
theorem QA {cs:List (AM)} {b:Nat} {a:List Int}:CT cs [] b a=((a.getD cs.length default)==1):=by rw[CT]
theorem KK {cs:List (AM)} {a:List Int} {es:List (AM)} (b:Nat) (c:AM) (hi:es[b]?=some c):CT cs (es.drop b) b a=(cond (cond ((a.getD b default) == -1) (true) (decide ((a.getD b default)<(Af c.1).1))) (false) (cond (decide (64<IntKind.i64.wrap ((IntKind.i64.wrap ((a.getD b default)-((Af c.1).1)))+((Af c.1).2)))) (false) (Cv a c b (λ(d:List Int)=>CT cs (es.drop (b+1)) (b+1) d) (BZ b c) a))):=by have hl:b<es.length:=(List.getElem?_eq_some_iff.1 hi).1;have he:es[b]=c:=(List.getElem?_eq_some_iff.1 hi).2;rw[<-getElem_cons_drop hl,CT]<;>(try rw[he])
def Du (cs:List (AM)):List (Int)->Nat->List Int->Bool
 | [],i0,a0_0=>CT cs cs 0 (a0_0.set 0 0)
 | e0::tl,i0,a0_0=>Du cs tl (i0+1) ((a0_0.set i0 (-1)))
theorem QB {cs:List (AM)} {b:Nat} {a:List Int}:Du cs [] b a=(CT cs cs 0 (a.set 0 0)):=by rw[Du]
theorem O2 {cs:List (AM)} {b:List Int} {es:List (Int)} (a:Nat) (c:Int) (hi:es[a]?=some c):Du cs (es.drop a) a b=(Du cs (es.drop (a+1)) (a+1) ((b.set a (-1)))):=by have hl:a<es.length:=(List.getElem?_eq_some_iff.1 hi).1;have he:es[a]=c:=(List.getElem?_eq_some_iff.1 hi).2;rw[<-getElem_cons_drop hl,Du]<;>(try rw[he])
def DJ (cs:List (AM)):Bool:=Du cs ((replicate ((cs.length+1:Nat)) ((0:Int)))) 0 ((replicate ((cs.length+1:Nat)) ((0:Int))))
noncomputable def Sg:Code:=Tryz.f64.body.getD .skip
def fK:=AB (Aq wd 90 ([.code Sg])) ([.code Sg])
def fJ:=Ψ fK
def Qv:=ν (Au fJ)
def AFk:=AB (Aq Aa 90 (AE Qv)) (AE Qv)
def vg:=AB (Aq Aa 90 (AG Qv)) (AG Qv)
def fI:=ν (AD (AD vg))
def Qt:=ν (Au fI)
def ve:=AB (Aq Aa 90 (AE Qt)) (AE Qt)
def vb:=ν (AD (AD ve))
def va:=Ac 12 (AD vb)
def Qw:=Ω va
def ABz:=Θ Qw
def lU:=AB (Aq Aa 90 (AG Qw)) (AG Qw)
def Wd:=ν (AD (AD lU))
def ABy:=Θ Wd
def lT:=Ξ Wd
def Wc:=Ψ lT
def Wb:=ν (Au Wc)
def lS:=AB (Aq Aa 90 (AE Wb)) (AE Wb)
def lR:=Ac 20 (AD (AD lS))
def Qu:=Ω lR
def ABx:=Θ Qu
def ABw:=AB (Aq Aa 90 (AG Qu)) (AG Qu)
def lQ:=AB (Aq Aa 90 (AG Qt)) (AG Qt)
def ABv:=ν (AD (AD lQ))
theorem YO (z:Option Addr) (cs:List (AM)) (o:Nat) (w:World) (h2:Cn 6 FR w z cs) (v:cs.length<=4294967296) (hj:JI cs):Calls Tryz.prog 64 ([V z cs.length o]:List Value).toArray w λe w'=>e=.returned (I ((DJ cs)))/\Below (U w) w w':=by
 refine AS (fn:=Tryz.f64) (c:=Sg) (n:=96) ?_;have K1:=Wk.start w;refine Ao wd fK K1 [] λw1 K2=>?_;refine AX [(0,V z cs.length o),(2,I false),(14,J (IntKind.i64.wrap ((cs.length:Int)+1)))] λE2=>?_;rw[Bs cs.length (by omega)];refine qx (λe r=>r=KD e) (0:Int) (KD (0:Int)) rfl (T:=3) (bytes:=8) (by kernel_rfl) rfl K2.H (Cr fK) (by kernel_rfl) (t:=22) (x:=.tmp 14) (y:=.tmp 14) (by kernel_rfl) (by kernel_rfl) ((cs.length+1:Nat)) (by kernel_rfl) (by kernel_rfl) (by omega) (by decide) λd w3 Z3 Hn b3=>?_;have K3:=K2.add b3 Hn;have y1:(replicate ((cs.length+1:Nat)) ((0:Int))).length=((cs.length+1:Nat)):=length_replicate;have x4:((replicate ((cs.length+1:Nat)) ((0:Int)))).length=((cs.length+1:Nat)):=y1;refine AC fJ K3 [] λw4 K4=>?_;have K5:Wk w w4 [] [(H7 (θ d) (((cs.length+1:Nat))) ((replicate ((cs.length+1:Nat)) ((0:Int)))))] []:=K4.pk [] [0];have k0:(DJ cs)=Du cs ((replicate ((cs.length+1:Nat)) ((0:Int)))) 0 ((replicate ((cs.length+1:Nat)) ((0:Int)))):=by unfold DJ;rfl
 refine AX [(0,V z cs.length o),(2,I false),(3,φ d (((cs.length+1:Nat))) (((cs.length+1:Nat)))),(17,J ((((cs.length+1:Nat)):Int))),(18,J (((0:Nat):Int)))] λE5=>?_;refine Bp (by kernel_rfl) (λE t1=>∃(q:Nat) (m:List Int) (E0:Nat->Value),q<=((replicate ((cs.length+1:Nat)) ((0:Int)))).length/\E=BN E0 [(0,V z cs.length o),(2,I false),(3,φ d (((cs.length+1:Nat))) (((cs.length+1:Nat)))),(17,J ((((cs.length+1:Nat)):Int))),(18,J ((q:Int)))]/\(DJ cs)=Du cs (List.drop q ((replicate ((cs.length+1:Nat)) ((0:Int))))) q m/\m.length=((cs.length+1:Nat))/\Wk w t1 [] [(H7 (θ d) (((cs.length+1:Nat))) m)] []) (λE _=>((replicate ((cs.length+1:Nat)) ((0:Int)))).length-AP (E 18)) ⟨0,((replicate ((cs.length+1:Nat)) ((0:Int)))),E5,Nat.zero_le _,rfl,k0,y1,K5⟩ ?_;clear k0;rintro E t1 ⟨q,m,E0,u6,rfl,k0,w0,K6⟩ a1;refine AC Qv K6 [] λw7 K7=>?_;refine AH (decide ((q:Int)<(((cs.length+1:Nat)):Int))) (λc8=>?_) (λc8=>?_)
 ·have m0:q<(replicate ((cs.length+1:Nat)) ((0:Int))).length:=by have:=of_decide_eq_true c8;omega
  obtain⟨e0,f3⟩:∃e,((replicate ((cs.length+1:Nat)) ((0:Int))))[q]?=some e:=⟨_,getElem?_eq_getElem m0⟩;rw[O2 q e0 f3]at k0;have t0:m[q]?=some (m.getD q default):=getD_some default (by have:=m0;omega);refine Ao Aa AFk K7 [] λw9 K8=>?_;refine Aw (g:=d) (off:=0) (cap:=((cs.length+1:Nat))) (sz:=1) (k:=q) (len:=((cs.length+1:Nat))) (some 23) (by have:=m0;omega) Tryz.underlying22 ?_;refine GT K8.H (K8.ix 0) (K8.at 0 rfl) q (m.getD q default) t0 0 (by decide) (J (-1)) (λr h=>by rw[h];rfl) (λ_ _ h=>by rw[h];rfl) 3 none (by kernel_rfl) (by kernel_rfl) rfl rfl (λk6 Hn k3 x6=>?_) (e':=-1);have a2:(m.set q (-1)).length=((cs.length+1:Nat)):=by rw[length_set];exact w0
  have K9:=K8.put 0 (by simp) k3 Hn;refine AC (Ab fJ) K9 [] λe3 k4=>?_;refine AX [(0,V z cs.length o),(2,I false),(3,φ d (((cs.length+1:Nat))) (((cs.length+1:Nat)))),(17,J ((((cs.length+1:Nat)):Int))),(18,J (IntKind.i64.wrap ((q:Int)+1)))] λv4=>?_;have h4:Wk w e3 [] [(H7 (θ d) (((cs.length+1:Nat))) ((m.set q (-1))))] []:=k4.pk [] [0];rw[Bs q (by omega)];refine a1 _ _ ⟨q+1,((m.set q (-1))),v4,m0,rfl,by rw[k0]<;>rfl,a2,h4⟩ ?_;show((replicate ((cs.length+1:Nat)) ((0:Int)))).length-AP (J ((q+1:Nat):Int))<((replicate ((cs.length+1:Nat)) ((0:Int)))).length-AP (J (q:Int));simp only[AP];omega
 have d2:q=(replicate ((cs.length+1:Nat)) ((0:Int))).length:=by have:=of_decide_eq_false c8;omega
 rw[d2,drop_length,QB]at k0;have t0:m[0]?=some (m.getD 0 default):=getD_some default (by omega);refine Ao Aa vg K7 [] λh6 l1=>?_;refine Aw (g:=d) (off:=0) (cap:=((cs.length+1:Nat))) (sz:=1) (k:=0) (len:=((cs.length+1:Nat))) (some 26) (by omega) Tryz.underlying22 ?_;refine GT l1.H (l1.ix 0) (l1.at 0 rfl) 0 (m.getD 0 default) t0 0 (by decide) (J 0) (λr h=>by rw[h];rfl) (λ_ _ h=>by rw[h];rfl) 3 none (by kernel_rfl) (by kernel_rfl) rfl rfl (λg6 Hn i3 w6=>?_) (e':=0);have z1:(m.set 0 0).length=((cs.length+1:Nat)):=by rw[length_set];exact w0
 have g4:=l1.put 0 (by simp) i3 Hn;refine AC fI g4 [] λc3 e4=>?_;have c4:Wk w c3 [] [(H7 (θ d) (((cs.length+1:Nat))) (m.set 0 0))] []:=e4.pk [] [0];have d0:(DJ cs)=CT cs cs 0 (m.set 0 0):=by rw[k0]<;>rfl
 refine AX [(0,V z cs.length o),(2,I false),(3,φ d (((cs.length+1:Nat))) (((cs.length+1:Nat)))),(27,V z cs.length o),(28,J ((cs.length:Int))),(29,J (((0:Nat):Int)))] λu4=>?_;refine Bp (by kernel_rfl) (λE s1=>∃(b:Nat) (a:List Int) (E0:Nat->Value),b<=cs.length/\E=BN E0 [(0,V z cs.length o),(2,I false),(3,φ d (((cs.length+1:Nat))) (((cs.length+1:Nat)))),(27,V z cs.length o),(28,J ((cs.length:Int))),(29,J ((b:Int)))]/\(DJ cs)=CT cs (List.drop b cs) b a/\a.length=((cs.length+1:Nat))/\Wk w s1 [] [(H7 (θ d) (((cs.length+1:Nat))) a)] []) (λE _=>cs.length-AP (E 29)) ⟨0,(m.set 0 0),u4,Nat.zero_le _,rfl,d0,z1,c4⟩ ?_;clear d0;rintro E s1 ⟨b,a,E0,t6,rfl,d0,m1,b4⟩ z0;refine AC Qt b4 [] λf6 u2=>?_;refine AH (decide ((b:Int)<(cs.length:Int))) (λq1=>?_) (λq1=>?_)
 ·have s:b<cs.length:=by have:=of_decide_eq_true q1;omega
  obtain⟨j,l0⟩:∃e,cs[b]?=some e:=⟨_,getElem?_eq_getElem s⟩;rw[KK b j l0]at d0;obtain⟨a0,b0,rfl,k2,l2⟩:=h2.all (by omega);have v1:=l2 b _ l0;refine Ao Aa ve u2 [] λa3 t2=>?_;refine Aw (g:=a0) (off:=b0) (cap:=o) (sz:=6) (k:=b) (len:=cs.length) (some 32) s Tryz.underlying48 ?_;refine Bd 130 a0 (b0+b*6) _ (some 33) (Aj v1 k2 t2.B) ?_;refine An vb [N (U a3) [J j.1,J j.2.1,J j.2.2.1,J j.2.2.2.1,J j.2.2.2.2.1,J j.2.2.2.2.2] 130] t2 [(0,0),(0,0)] λz2 a4=>?_;refine AW a4 (gt j.1 z2) λe6 z3=>?_;refine Al 12 va z3 [] λc6 j0=>?_;have g2:a[b]?=some (a.getD b default):=getD_some default (by have:=s;omega);refine Ap j0 [(3,1,0),(9,1,0)] [⟨2,[(40,φ d (((cs.length+1:Nat))) (((cs.length+1:Nat)))),(41,J ((b:Int)))],.pointer (some ⟨d,0+b*1,none⟩),true⟩,⟨8,[(46,φ d (((cs.length+1:Nat))) (((cs.length+1:Nat)))),(47,J ((b:Int)))],.pointer (some ⟨d,0+b*1,none⟩),(!((a.getD b default) == -1))&&(true)⟩] (II (x:=⟨d,0+b*1,[J ((a.getD b default))],3,false⟩) j0.G ⟨j0.H.rowLt (j0.ix 0) (j0.at 0 rfl),j0.H.cellsF (T:=3) (n:=1) (f:=KD) (c:=(((cs.length+1:Nat)))) (l:=a) (λ_=>rfl) (j0.ix 0) (j0.at 0 rfl) g2⟩) (λsp q0=>?_) λb6 b7 y3=>?_
  ·simp only[mem_cons,not_mem_nil,or_false]at q0;rcases q0 with rfl | rfl
   ·exact BR λ_ E u _=>BJ (sz:=1) (cap:=((cs.length+1:Nat))) (len:=((cs.length+1:Nat))) 22 (.tmp 40) (.tmp 41) (by have:=s;omega) Tryz.underlying22
   exact BR λ_ E u _=>BJ (sz:=1) (cap:=((cs.length+1:Nat))) (len:=((cs.length+1:Nat))) 22 (.tmp 46) (.tmp 47) (by have:=s;omega) Tryz.underlying22
  refine AC Qw y3 [] λa6 s2=>?_;refine AH (cond ((a.getD b default) == -1) (true) (decide ((a.getD b default)<(Af j.1).1))) (λd1=>?_) (λd1=>?_)
  ·refine AC ABz s2 [] λz5 r2=>?_;have hS:(DJ cs)=false:=by rw[d0,d1]<;>rfl
   exact AN r2 (0,0) (I false) ⟨by rw[hS]<;>rfl,r2.B⟩
  refine Ao Aa lU s2 [] λx5 k1=>?_;refine Aw (g:=d) (off:=0) (cap:=((cs.length+1:Nat))) (sz:=1) (k:=b) (len:=((cs.length+1:Nat))) (some 55) (by have:=s;omega) Tryz.underlying22 ?_;refine EF 3 d (0+b*1) (J ((a.getD b default))) (some 56) (by simpa using(k1.H.cellsF (T:=3) (n:=1) (f:=KD) (c:=(((cs.length+1:Nat)))) (l:=a) (λ_=>rfl) (k1.ix 0) (k1.at 0 rfl) g2) 0 _ rfl) ?_;refine AC Wd k1 [] λw5 q2=>?_;refine AH (decide (64<IntKind.i64.wrap ((IntKind.i64.wrap ((a.getD b default)-((Af j.1).1)))+((Af j.1).2)))) (λp1=>?_) (λp1=>?_)
  ·refine AC ABy q2 [] λv5 p2=>?_;have hS:(DJ cs)=false:=by rw[d0,d1,p1]<;>rfl
   exact AN p2 (0,0) (I false) ⟨by rw[hS]<;>rfl,p2.B⟩
  refine AC lT q2 [(0,0)] λy2 x3=>?_;refine BL (Ux hj v l0 y2) λen u5 hh=>?_;obtain⟨g0,p,rfl,h3,Hn⟩:=hh;refine⟨_,rfl,?_⟩;have v3:=x3.join h3 Hn;have m6:(BZ b j).length<=2:=Uw _ _;refine AC Wc v3 [] λx2 u3=>?_;have t3:Wk w x2 [] [(H7 (θ d) (((cs.length+1:Nat))) a),(Bc g0 p (BZ b j))] []:=u3.pk [] [0,1];have c0:(DJ cs)=Cv a j b (λ(i:List Int)=>CT cs (List.drop (b+1) cs) (b+1) i) (BZ b j) a:=by rw[d0,d1,p1]<;>rfl
  refine AX [(0,V (some ⟨a0,b0,none⟩) cs.length o),(2,I false),(3,φ d (((cs.length+1:Nat))) (((cs.length+1:Nat)))),(9,J (IntKind.i64.wrap ((IntKind.i64.wrap ((a.getD b default)-((Af j.1).1)))+((Af j.1).2)))),(27,V (some ⟨a0,b0,none⟩) cs.length o),(28,J ((cs.length:Int))),(29,J ((b:Int))),(65,V g0 ((BZ b j).length) p),(66,J (((BZ b j).length:Int))),(67,J (((0:Nat):Int)))] λt4=>?_;refine Bp (by kernel_rfl) (λE r1=>∃(i2:Nat) (i:List Int) (E0:Nat->Value),i2<=(BZ b j).length/\E=BN E0 [(0,V (some ⟨a0,b0,none⟩) cs.length o),(2,I false),(3,φ d (((cs.length+1:Nat))) (((cs.length+1:Nat)))),(9,J (IntKind.i64.wrap ((IntKind.i64.wrap ((a.getD b default)-((Af j.1).1)))+((Af j.1).2)))),(27,V (some ⟨a0,b0,none⟩) cs.length o),(28,J ((cs.length:Int))),(29,J ((b:Int))),(65,V g0 ((BZ b j).length) p),(66,J (((BZ b j).length:Int))),(67,J ((i2:Int)))]/\(DJ cs)=Cv a j b (λ(i:List Int)=>CT cs (List.drop (b+1) cs) (b+1) i) (List.drop i2 (BZ b j)) i/\i.length=((cs.length+1:Nat))/\Wk w r1 [] [(H7 (θ d) (((cs.length+1:Nat))) i),(Bc g0 p (BZ b j))] []) (λE _=>(BZ b j).length-AP (E 67)) ⟨0,a,t4,Nat.zero_le _,rfl,c0,m1,t3⟩ ?_;clear c0;rintro E r1 ⟨i2,i,E0,q6,rfl,c0,v0,r3⟩ x0;refine AC Wb r3 [] λt5 b1=>?_;refine AH (decide ((i2:Int)<((BZ b j).length:Int))) (λo1=>?_) (λo1=>?_)
  ·have r0:i2<(BZ b j).length:=by have:=of_decide_eq_true o1;omega
   obtain⟨e2,p0⟩:∃e,(BZ b j)[i2]?=some e:=⟨_,getElem?_eq_getElem r0⟩;rw[O1 i2 e2 p0]at c0;obtain⟨c1,rfl,z4⟩:=b1.H.rowAt (b1.ix 1) (b1.at 1 rfl) (by omega);refine Ao Aa lS b1 [] λq5 h1=>?_;refine Aw (g:=c1) (off:=0) (cap:=p) (sz:=1) (k:=i2) (len:=(BZ b j).length) (some 69) r0 Tryz.underlying22 ?_;refine EF 3 c1 (0+i2*1) (J ((e2:Int))) (some 70) (by simpa using(h1.H.cellsF (T:=3) (n:=1) (f:=F7) (c:=p) (l:=(BZ b j)) (λ_=>rfl) (h1.ix 1) (h1.at 1 rfl) p0) 0 _ rfl) ?_;refine Al 20 lR h1 [] λk5 h0=>?_;have f2:i[e2]?=some (i.getD e2 default):=getD_some default (by have:=((HS hj v l0) _ (mem_of_getElem? p0));omega);refine Ap h0 [(3,0,0),(9,0,0)] [⟨2,[(71,φ d (((cs.length+1:Nat))) (((cs.length+1:Nat)))),(72,J ((e2:Int)))],.pointer (some ⟨d,0+e2*1,none⟩),true⟩,⟨8,[(77,φ d (((cs.length+1:Nat))) (((cs.length+1:Nat)))),(78,J ((e2:Int)))],.pointer (some ⟨d,0+e2*1,none⟩),((!((i.getD e2 default) == -1)))&&(true)⟩] (II (x:=⟨d,0+e2*1,[J ((i.getD e2 default))],3,false⟩) h0.G ⟨h0.H.rowLt (h0.ix 0) (h0.at 0 rfl),h0.H.cellsF (T:=3) (n:=1) (f:=KD) (c:=(((cs.length+1:Nat)))) (l:=i) (λ_=>rfl) (h0.ix 0) (h0.at 0 rfl) f2⟩) (λsp q0=>?_) λh5 a7 q3=>?_
   ·simp only[mem_cons,not_mem_nil,or_false]at q0;rcases q0 with rfl | rfl
    ·exact BR λ_ E u _=>BJ (sz:=1) (cap:=((cs.length+1:Nat))) (len:=((cs.length+1:Nat))) 22 (.tmp 71) (.tmp 72) (by have:=((HS hj v l0) _ (mem_of_getElem? p0));omega) Tryz.underlying22
    exact BR λ_ E u _=>BJ (sz:=1) (cap:=((cs.length+1:Nat))) (len:=((cs.length+1:Nat))) 22 (.tmp 77) (.tmp 78) (by have:=((HS hj v l0) _ (mem_of_getElem? p0));omega) Tryz.underlying22
   refine AC Qu q3 [] λg5 o2=>?_;refine AH (cond (!((i.getD e2 default) == -1)) (!((i.getD e2 default)==IntKind.i64.wrap ((IntKind.i64.wrap ((a.getD b default)-((Af j.1).1)))+((Af j.1).2)))) (false)) (λn1=>?_) (λn1=>?_)
   ·refine AC ABx o2 [] λf5 n2=>?_;have hS:(DJ cs)=false:=by rw[c0,n1]<;>rfl
    exact AN n2 (0,0) (I false) ⟨by rw[hS]<;>rfl,n2.B⟩
   refine Ao Aa ABw o2 [] λe5 g1=>?_;refine Aw (g:=d) (off:=0) (cap:=((cs.length+1:Nat))) (sz:=1) (k:=e2) (len:=((cs.length+1:Nat))) (some 87) (by have:=((HS hj v l0) _ (mem_of_getElem? p0));omega) Tryz.underlying22 ?_;refine GT g1.H (g1.ix 0) (g1.at 0 rfl) e2 (i.getD e2 default) f2 0 (by decide) (J (IntKind.i64.wrap ((IntKind.i64.wrap ((a.getD b default)-((Af j.1).1)))+((Af j.1).2)))) (λr h=>by rw[h];rfl) (λ_ _ h=>by rw[h];rfl) 3 none (by kernel_rfl) (by kernel_rfl) rfl rfl (λc5 Hn g3 v6=>?_) (e':=IntKind.i64.wrap ((IntKind.i64.wrap ((a.getD b default)-((Af j.1).1)))+((Af j.1).2)));have x1:(i.set e2 (IntKind.i64.wrap ((IntKind.i64.wrap ((a.getD b default)-((Af j.1).1)))+((Af j.1).2)))).length=((cs.length+1:Nat)):=by rw[length_set];exact v0
   have p3:=g1.put 0 (by simp) g3 Hn;refine AC (Ab Wc) p3 [] λw2 o3=>?_;refine AX [(0,V (some ⟨a0,b0,none⟩) cs.length o),(2,I false),(3,φ d (((cs.length+1:Nat))) (((cs.length+1:Nat)))),(9,J (IntKind.i64.wrap ((IntKind.i64.wrap ((a.getD b default)-((Af j.1).1)))+((Af j.1).2)))),(27,V (some ⟨a0,b0,none⟩) cs.length o),(28,J ((cs.length:Int))),(29,J ((b:Int))),(65,φ c1 ((BZ b j).length) p),(66,J (((BZ b j).length:Int))),(67,J (IntKind.i64.wrap ((i2:Int)+1)))] λq4=>?_;have n3:Wk w w2 [] [(H7 (θ d) (((cs.length+1:Nat))) ((i.set e2 (IntKind.i64.wrap ((IntKind.i64.wrap ((a.getD b default)-((Af j.1).1)))+((Af j.1).2)))))),(Bc (θ c1) p (BZ b j))] []:=o3.pk [] [0,1];rw[Bs i2 (by omega)];refine x0 _ _ ⟨i2+1,((i.set e2 (IntKind.i64.wrap ((IntKind.i64.wrap ((a.getD b default)-((Af j.1).1)))+((Af j.1).2))))),q4,r0,rfl,by rw[c0,n1]<;>rfl,x1,n3⟩ ?_;show(BZ b j).length-AP (J ((i2+1:Nat):Int))<(BZ b j).length-AP (J (i2:Int));simp only[AP];omega
  have b2:i2=(BZ b j).length:=by have:=of_decide_eq_false o1;omega
  rw[b2,drop_length,P9]at c0
  try dsimp only at c0
  refine AC (Ab fI) b1 [] λv2 m3=>?_;refine AX [(0,V (some ⟨a0,b0,none⟩) cs.length o),(2,I false),(3,φ d (((cs.length+1:Nat))) (((cs.length+1:Nat)))),(27,V (some ⟨a0,b0,none⟩) cs.length o),(28,J ((cs.length:Int))),(29,J (IntKind.i64.wrap ((b:Int)+1)))] λn4=>?_;have l3:Wk w v2 [] [(H7 (θ d) (((cs.length+1:Nat))) i)] []:=m3.pk [] [0];rw[Bs b (by omega)];refine z0 _ _ ⟨b+1,i,n4,s,rfl,by rw[c0]<;>rfl,v0,l3⟩ ?_;show cs.length-AP (J ((b+1:Nat):Int))<cs.length-AP (J (b:Int));simp only[AP];omega
 have c2:b=cs.length:=by have:=of_decide_eq_false q1;omega
 rw[c2,drop_length,QA]at d0;have t0:a[cs.length]?=some (a.getD cs.length default):=getD_some default (by omega);refine Ao Aa lQ u2 [] λb5 f1=>?_;refine Aw (g:=d) (off:=0) (cap:=((cs.length+1:Nat))) (sz:=1) (k:=cs.length) (len:=((cs.length+1:Nat))) (some 93) (by omega) Tryz.underlying22 ?_;refine EF 3 d (0+cs.length*1) (J ((a.getD cs.length default))) (some 94) (by simpa using(f1.H.cellsF (T:=3) (n:=1) (f:=KD) (c:=(((cs.length+1:Nat)))) (l:=a) (λ_=>rfl) (f1.ix 0) (f1.at 0 rfl) t0) 0 _ rfl) ?_;refine AC ABv f1 [] λa5 m2=>?_;have hS:(DJ cs)=((a.getD cs.length default)==1):=by rw[d0]<;>rfl
 exact AN m2 (0,0) (I ((a.getD cs.length default)==1)) ⟨by rw[hS]<;>rfl,m2.B⟩
def CW (p0an:Nat) (p0bn:Nat) (p0cn:Nat) (rts:List (DY)) (k:Nat) (p2:Int) (p3a:Int) (p3b:Int):Bool:=cond (p3a==2) (Dq p3b (p0an:Int)) (cond (p3a==4) (Dq p3b (p0bn:Int)) (cond (p3a==19) (Dq p3b (p0cn:Int)) (cond (p3a==20) (Dq p3b (p0cn:Int)) (cond (p3a==3) (Dq p3b (k:Int)) (cond (p3a==16) (cond (decide (p2<p3b)) (decide (p3b<=((rts.getD k default).2.2.2.2.2.length:Int))) (false)) (cond (p3a==17) (cond (decide (p2<p3b)) (decide (p3b<=((rts.getD k default).2.2.2.2.2.length:Int))) (false)) (cond (cond (decide (1<=p3a)) (decide (p3a<=20)) (false)) (p3b==0) (false))))))))
noncomputable def am:Code:=Tryz.f63.body.getD .skip
def fP:=ν ([.code am])
def vl:=Θ fP
def AFn:=Ψ vl
def fM:=Ξ fP
def vk:=Θ fM
def AFm:=Ψ vk
def fL:=Ξ fM
def vj:=Θ fL
def vh:=Θ vj
def AFl:=Ψ vh
def Wh:=Ξ fL
def la:=Θ Wh
def AB4:=Ψ la
def Wg:=Ξ Wh
def lZ:=Θ Wg
def AB3:=Ψ lZ
def Wf:=Ξ Wg
def lY:=Θ Wf
def lX:=Ac 13 (AE lY)
def AB2:=Ω lX
def We:=Ξ Wf
def lW:=Ac 13 (AE We)
def AB1:=Ω lW
def lV:=Ac 14 (AG We)
def AB0:=Ω lV
theorem Ul (r0:Option Addr) (g q0:Nat) (p0:Option Addr) (f m0:Nat) (l0:Option Addr) (b k0:Nat) (y:Option Addr) (rts:List (DY)) (i k:Nat) (m d a j0 i0 z0 x0:Int) (w:World) (b0:rowsRt w y rts) (n1:rts.length<=4294967296) (t:k<rts.length):Calls Tryz.prog 63 ([D [V r0 g q0,V p0 f m0,V l0 b k0,V y rts.length i],J ((k:Int)),J m,D [J d,J a,J j0,J i0,J z0,J x0]]:List Value).toArray w λe w'=>e=.returned (I ((CW g f b rts k m d a)))/\Below (U w) w w':=by
 refine AS (fn:=Tryz.f63) (c:=am) (n:=74) ?_;have K1:=Wk.start w;refine An fP [N (U w) [V r0 g q0,V p0 f m0,V l0 b k0,V y rts.length i] 33,N (U w+1) [J d,J a,J j0,J i0,J z0,J x0] 130] K1 [(1,0)] λw1 K2=>?_;refine AH (d==2) (λc2=>?_) (λc2=>?_)
 ·refine AC vl K2 [(1,1),(0,0)] λw3 K3=>?_;refine AW K3 (IW a (g:Int) w3) λw4 K4=>?_;refine AC AFn K4 [] λw5 K5=>?_;have o:(CW g f b rts k m d a)=(Dq a (g:Int)):=by unfold CW;rw[c2]<;>rfl
  exact AN K5 (0,0) (I (Dq a (g:Int))) ⟨by rw[o]<;>rfl,K5.B⟩
 refine AC fM K2 [] λw6 K6=>?_;refine AH (d==4) (λc7=>?_) (λc7=>?_)
 ·refine AC vk K6 [(1,1),(0,1)] λw8 K7=>?_;refine AW K7 (IW a (f:Int) w8) λw9 K8=>?_;refine AC AFm K8 [] λe3 K9=>?_;have o:(CW g f b rts k m d a)=(Dq a (f:Int)):=by unfold CW;rw[c2,c7]<;>rfl
  exact AN K9 (0,0) (I (Dq a (f:Int))) ⟨by rw[o]<;>rfl,K9.B⟩
 refine AC fL K6 [] λc3 m1=>?_;refine AH (d==19) (λl=>?_) (λl=>?_)
 ·refine AC vj m1 [] λb3 e2=>?_;refine AH (d==19) (λ_=>?_) (λh=>nomatch h.symm.trans l);refine AC vh e2 [(1,1),(0,2)] λq1 d2=>?_;refine AW d2 (IW a (b:Int) q1) λa3 b2=>?_;refine AC AFl b2 [] λz2 l1=>?_;have o:(CW g f b rts k m d a)=(Dq a (b:Int)):=by unfold CW;rw[c2,c7,l]<;>rfl
  exact AN l1 (0,0) (I (Dq a (b:Int))) ⟨by rw[o]<;>rfl,l1.B⟩
 refine AC Wh m1 [] λy2 k1=>?_;refine AH (d==20) (λv=>?_) (λv=>?_)
 ·refine AC la k1 [(1,1),(0,2)] λp1 a2=>?_;refine AW a2 (IW a (b:Int) p1) λx2 z1=>?_;refine AC AB4 z1 [] λw2 i1=>?_;have o:(CW g f b rts k m d a)=(Dq a (b:Int)):=by unfold CW;rw[c2,c7,l,v]<;>rfl
  exact AN i1 (0,0) (I (Dq a (b:Int))) ⟨by rw[o]<;>rfl,i1.B⟩
 refine AC Wg k1 [] λv2 h1=>?_;refine AH (d==3) (λe0=>?_) (λe0=>?_)
 ·refine AC lZ h1 [(1,1)] λo1 y1=>?_;refine AW y1 (IW a (k:Int) o1) λu2 x1=>?_;refine AC AB3 x1 [] λt2 g1=>?_;have o:(CW g f b rts k m d a)=(Dq a (k:Int)):=by unfold CW;rw[c2,c7,l,v,e0]<;>rfl
  exact AN g1 (0,0) (I (Dq a (k:Int))) ⟨by rw[o]<;>rfl,g1.B⟩
 refine AC Wf h1 [] λs2 f1=>?_;refine AH (d==16) (λd0=>?_) (λd0=>?_)
 ·refine AC lY f1 [] λr2 v1=>?_;refine AH (d==16) (λ_=>?_) (λh=>nomatch h.symm.trans d0);refine Al 13 lX v1 [] λq2 h0=>?_;obtain⟨p,q,rfl,j,c0⟩:=b0.all (by omega);have t0:rts[k]?=some (rts.getD k default):=getD_some default t;obtain⟨s,r,a0,v0⟩:=c0 k _ t0;refine Ap h0 [(1,1,1),(6,1,1),(8,0,3),(12,2,5)] [⟨10,[(53,V (some ⟨p,q,none⟩) rts.length i),(54,J ((k:Int)))],.pointer (some ⟨p,q+k*6,none⟩),((decide (m<a)))&&(true)⟩] (II (x:=⟨p,q+k*6,[Y ((rts.getD k default).1),I ((rts.getD k default).2.1),J ((rts.getD k default).2.2.1),J ((rts.getD k default).2.2.2.1),J ((rts.getD k default).2.2.2.2.1),V s ((rts.getD k default).2.2.2.2.2.length) r],50,false⟩) h0.G ⟨Nat.lt_of_lt_of_le j h0.B.size,Aj a0 j h0.B⟩) (λsp z=>?_) λo2 h3 t1=>?_
  ·rw[mem_singleton.1 z];exact BR λ_ E u _=>BJ (sz:=6) (cap:=i) 31 (.tmp 53) (.tmp 54) t Tryz.underlying31
  refine AC AB2 t1 [] λn2 e1=>?_;have o:(CW g f b rts k m d a)=(cond (decide (m<a)) (decide (a<=((rts.getD k default).2.2.2.2.2.length:Int))) (false)):=by unfold CW;rw[c2,c7,l,v,e0,d0]<;>rfl
  exact AN e1 (0,0) (I (cond (decide (m<a)) (decide (a<=((rts.getD k default).2.2.2.2.2.length:Int))) (false))) ⟨by rw[o]<;>rfl,e1.B⟩
 refine AC We f1 [] λm2 d1=>?_;refine AH (d==17) (λw0=>?_) (λw0=>?_)
 ·refine Al 13 lW d1 [] λl2 g0=>?_;obtain⟨p,q,rfl,j,c0⟩:=b0.all (by omega);have t0:rts[k]?=some (rts.getD k default):=getD_some default t;obtain⟨s,r,a0,v0⟩:=c0 k _ t0;refine Ap g0 [(1,1,1),(6,1,1),(8,0,3),(12,2,5)] [⟨10,[(53,V (some ⟨p,q,none⟩) rts.length i),(54,J ((k:Int)))],.pointer (some ⟨p,q+k*6,none⟩),((decide (m<a)))&&(true)⟩] (II (x:=⟨p,q+k*6,[Y ((rts.getD k default).1),I ((rts.getD k default).2.1),J ((rts.getD k default).2.2.1),J ((rts.getD k default).2.2.2.1),J ((rts.getD k default).2.2.2.2.1),V s ((rts.getD k default).2.2.2.2.2.length) r],50,false⟩) g0.G ⟨Nat.lt_of_lt_of_le j g0.B.size,Aj a0 j g0.B⟩) (λsp z=>?_) λk2 g3 s1=>?_
  ·rw[mem_singleton.1 z];exact BR λ_ E u _=>BJ (sz:=6) (cap:=i) 31 (.tmp 53) (.tmp 54) t Tryz.underlying31
  refine AC AB1 s1 [] λi2 c1=>?_;have o:(CW g f b rts k m d a)=(cond (decide (m<a)) (decide (a<=((rts.getD k default).2.2.2.2.2.length:Int))) (false)):=by unfold CW;rw[c2,c7,l,v,e0,d0,w0]<;>rfl
  exact AN c1 (0,0) (I (cond (decide (m<a)) (decide (a<=((rts.getD k default).2.2.2.2.2.length:Int))) (false))) ⟨by rw[o]<;>rfl,c1.B⟩
 refine Al 14 lV d1 [] λh2 b1=>?_;refine Ap b1 [(1,1,0),(5,1,0),(10,1,1)] [] b1.G (λsp z=>by cases z) λg2 f3 r1=>?_;refine AC AB0 r1 [] λf2 a1=>?_;have o:(CW g f b rts k m d a)=(cond (cond (decide (1<=d)) (decide (d<=20)) (false)) (a==0) (false)):=by unfold CW;rw[c2,c7,l,v,e0,d0,w0]<;>rfl
 exact AN a1 (0,0) (I (cond (cond (decide (1<=d)) (decide (d<=20)) (false)) (a==0) (false))) ⟨by rw[o]<;>rfl,a1.B⟩
def MG (cs:List AM) (i:Nat):Prop:=∀(q:Nat) (x:AM),q<i->cs[q]?=some x->x.1=16\/x.1=17->(q:Int)<x.2.1/\x.2.1<=(cs.length:Int)
theorem Yu (cs:List AM):MG cs 0:=λ_ _ h=>absurd h (Nat.not_lt_zero _)
theorem Yv {cs:List AM} {i:Nat} (h:MG cs i) (hi:i=cs.length):JI cs:=λq x hx=>h q x (by rw[hi];exact(List.getElem?_eq_some_iff.1 hx).1) hx
theorem Xc {d c a:Nat} {rts:List DY} {e:DY} {k i:Nat} {x:AM} {b:Bool} (j:MG e.2.2.2.2.2 i) (hx:e.2.2.2.2.2[i]?=some x) (he:rts[k]?=some e) (hc:cond (!b) true (!(CW d c a rts k (i:Int) x.1 x.2.1))=false):MG e.2.2.2.2.2 (i+1):=λq y l f hop=>by
 by_cases h:q=i
 ·subst h;obtain rfl:=Option.some.inj (hx.symm.trans f);have hg:(rts.getD k default).2.2.2.2.2=e.2.2.2.2.2:=by rw[getD_eq_getElem?_getD,he];rfl
  have hv:CW d c a rts k (q:Int) x.1 x.2.1=true:=by
   cases b
   ·cases hc
   simpa using hc
  unfold CW at hv;rw[hg]at hv;rcases hop with g | g<;>rw[g]at hv<;>simp at hv<;>omega
 exact j q y (by omega) f hop
def DT (ins:List (List UInt8)) (scs:List (List (Int×Int×Int))) (pas:List (List UInt8)) (rts:List (DY)) (i1:Nat) (k2:Bool):List (AM)->Nat->Bool
 | [],i2=>k2
 | e2::tl,i2=>cond (cond (!(Co e2.1 e2.2.2.1 e2.2.2.2.1 e2.2.2.2.2.1 e2.2.2.2.2.2)) (true) (!((CW ins.length scs.length pas.length rts i1 (i2:Int) e2.1 e2.2.1)))) (false) (DT ins scs pas rts i1 k2 tl (i2+1))
theorem Oy {ins:List (List UInt8)} {scs:List (List (Int×Int×Int))} {pas:List (List UInt8)} {rts:List (DY)} {c:Nat} {a:Bool} {b:Nat}:DT ins scs pas rts c a [] b=(a):=by rw[DT]
theorem OG {ins:List (List UInt8)} {scs:List (List (Int×Int×Int))} {pas:List (List UInt8)} {rts:List (DY)} {c:Nat} {d:Bool} {es:List (AM)} (b:Nat) (a:AM) (hi:es[b]?=some a):DT ins scs pas rts c d (es.drop b) b=(cond (cond (!(Co a.1 a.2.2.1 a.2.2.2.1 a.2.2.2.2.1 a.2.2.2.2.2)) (true) (!((CW ins.length scs.length pas.length rts c (b:Int) a.1 a.2.1)))) (false) (DT ins scs pas rts c d (es.drop (b+1)) (b+1))):=by have hl:b<es.length:=(List.getElem?_eq_some_iff.1 hi).1;have he:es[b]=a:=(List.getElem?_eq_some_iff.1 hi).2;rw[<-getElem_cons_drop hl,DT]<;>(try rw[he])
def C3 (ins:List (List UInt8)) (scs:List (List (Int×Int×Int))) (pas:List (List UInt8)) (rts:List (DY)):List (DY)->Nat->Bool
 | [],i1=>true
 | e1::tl,i1=>cond (cond (decide (4096<(e1.2.2.2.2.2.length:Int))) (true) (!(Dw e1.2.1 e1.2.2.1 e1.2.2.2.1 e1.2.2.2.2.1))) (false) (DT ins scs pas rts i1 (cond (!((DJ e1.2.2.2.2.2))) (false) (C3 ins scs pas rts tl (i1+1))) e1.2.2.2.2.2 0)
theorem Oz {ins:List (List UInt8)} {scs:List (List (Int×Int×Int))} {pas:List (List UInt8)} {rts:List (DY)} {a:Nat}:C3 ins scs pas rts [] a=(true):=by rw[C3]
theorem OH {ins:List (List UInt8)} {scs:List (List (Int×Int×Int))} {pas:List (List UInt8)} {rts:List (DY)} {es:List (DY)} (b:Nat) (a:DY) (hi:es[b]?=some a):C3 ins scs pas rts (es.drop b) b=(cond (cond (decide (4096<(a.2.2.2.2.2.length:Int))) (true) (!(Dw a.2.1 a.2.2.1 a.2.2.2.1 a.2.2.2.2.1))) (false) (DT ins scs pas rts b (cond (!((DJ a.2.2.2.2.2))) (false) (C3 ins scs pas rts (es.drop (b+1)) (b+1))) a.2.2.2.2.2 0)):=by have hl:b<es.length:=(List.getElem?_eq_some_iff.1 hi).1;have he:es[b]=a:=(List.getElem?_eq_some_iff.1 hi).2;rw[<-getElem_cons_drop hl,C3]<;>(try rw[he])
def De (ins:List (List UInt8)) (scs:List (List (Int×Int×Int))) (pas:List (List UInt8)) (rts:List (DY)):List (List (Int×Int×Int))->Bool
 | []=>C3 ins scs pas rts rts 0
 | e0::tl=>cond (!(Eg e0)) (false) (De ins scs pas rts tl)
theorem O0 {ins:List (List UInt8)} {scs:List (List (Int×Int×Int))} {pas:List (List UInt8)} {rts:List (DY)}:De ins scs pas rts []=(C3 ins scs pas rts rts 0):=by rw[De]
theorem OI {ins:List (List UInt8)} {scs:List (List (Int×Int×Int))} {pas:List (List UInt8)} {rts:List (DY)} {es:List (List (Int×Int×Int))} (i:Nat) (a:List (Int×Int×Int)) (hi:es[i]?=some a):De ins scs pas rts (es.drop i)=(cond (!(Eg a)) (false) (De ins scs pas rts (es.drop (i+1)))):=by have hl:i<es.length:=(List.getElem?_eq_some_iff.1 hi).1;have he:es[i]=a:=(List.getElem?_eq_some_iff.1 hi).2;rw[<-getElem_cons_drop hl,De]<;>(try rw[he])
def Cc (ins:List (List UInt8)) (scs:List (List (Int×Int×Int))) (pas:List (List UInt8)) (rts:List (DY)):Bool:=cond (cond (cond (cond (decide (128<(ins.length:Int))) (true) (decide (128<(scs.length:Int)))) (true) (decide (128<(pas.length:Int)))) (true) (decide (128<(rts.length:Int)))) (false) (De ins scs pas rts scs)
noncomputable def ak:Code:=Tryz.f33.body.getD .skip
def vW:=Ac 1 ([.code ak])
def fF:=Ω vW
def AFg:=Θ fF
def fE:=Ξ fF
def UU:=ν (Au fE)
def vV:=AB (Aq Aa 90 (AE UU)) (AE UU)
def vU:=ν (AD (AD vV))
def vT:=Ψ vU
def AFf:=Θ vT
def fD:=Ξ UU
def Qs:=ν (Au fD)
def lP:=AB (Aq Aa 90 (AE Qs)) (AE Qs)
def lO:=Ac 12 (AD (AD lP))
def Wa:=Ω lO
def ABu:=Θ Wa
def WZ:=Ξ Wa
def Qr:=ν (Au WZ)
def lN:=AB (Aq Aa 90 (AE Qr)) (AE Qr)
def lM:=Ac 17 (AD (AD lN))
def lL:=Ω lM
def ABt:=Θ lL
def lK:=Ξ Qr
def lJ:=Ψ lK
def ABs:=Θ lJ
def ABr:=Ξ Qs
theorem Ts (l:Option Addr) (ins:List (List UInt8)) (p:Nat) (h:Option Addr) (scs:List (List (Int×Int×Int))) (f:Nat) (j:Option Addr) (pas:List (List UInt8)) (o:Nat) (t:Option Addr) (rts:List (DY)) (b:Nat) (w:World) (k3:rowsStr w l ins) (y2:ins.length<=4294967296) (c1:rowsSc w h scs) (u2:scs.length<=4294967296) (i3:rowsStr w j pas) (x2:pas.length<=4294967296) (p0:rowsRt w t rts) (v2:rts.length<=4294967296) (r1:∀e∈scs,e.length<=4294967296) (s1:∀e∈rts,e.2.2.2.2.2.length<=4294967296):Calls Tryz.prog 33 ([D [V l ins.length p,V h scs.length f,V j pas.length o,V t rts.length b]]:List Value).toArray w λe w'=>e=.returned (I ((Cc ins scs pas rts)))/\Below (U w) w w':=by
 refine AS (fn:=Tryz.f33) (c:=ak) (n:=84) ?_;have K1:=Wk.start w;refine Bg 1 vW [N (U w) [V l ins.length p,V h scs.length f,V j pas.length o,V t rts.length b] 33] K1 [] λw1 K2=>?_;refine Ap K2 [(1,0,0),(6,0,1),(12,0,2),(18,0,3)] [] K2.G (λsp c0=>by cases c0) λw2 E2 K3=>?_;refine AC fF K3 [] λw3 K4=>?_;refine AH (cond (cond (cond (decide (128<(ins.length:Int))) (true) (decide (128<(scs.length:Int)))) (true) (decide (128<(pas.length:Int)))) (true) (decide (128<(rts.length:Int)))) (λc4=>?_) (λc4=>?_)
 ·refine AC AFg K4 [] λw5 K5=>?_;have hS:(Cc ins scs pas rts)=false:=by unfold Cc;rw[c4]<;>rfl
  exact AN K5 (0,0) (I false) ⟨by rw[hS]<;>rfl,K5.B⟩
 refine AC fE K4 [(0,1)] λw6 K6=>?_;have K7:Wk w w6 [N (U w) [V l ins.length p,V h scs.length f,V j pas.length o,V t rts.length b] 33] [] []:=K6.pk [0] [];have b0:(Cc ins scs pas rts)=De ins scs pas rts scs:=by unfold Cc;rw[c4]<;>rfl
 refine AX [(1,Z (U w)),(2,I false),(32,V h scs.length f),(33,J ((scs.length:Int))),(34,J (((0:Nat):Int)))] λE7=>?_;refine Bp (by kernel_rfl) (λE p1=>∃(i0:Nat) (E0:Nat->Value),i0<=scs.length/\E=BN E0 [(1,Z (U w)),(2,I false),(32,V h scs.length f),(33,J ((scs.length:Int))),(34,J ((i0:Int)))]/\(Cc ins scs pas rts)=De ins scs pas rts (List.drop i0 scs)/\Wk w p1 [N (U w) [V l ins.length p,V h scs.length f,V j pas.length o,V t rts.length b] 33] [] []) (λE _=>scs.length-AP (E 34)) ⟨0,E7,Nat.zero_le _,rfl,b0,K7⟩ ?_;clear b0;rintro E p1 ⟨i0,E0,c6,rfl,b0,K8⟩ m0;refine AC UU K8 [] λw9 K9=>?_;refine AH (decide ((i0:Int)<(scs.length:Int))) (λm1=>?_) (λm1=>?_)
 ·have j0:i0<scs.length:=by have:=of_decide_eq_true m1;omega
  obtain⟨e0,b1⟩:∃e,scs[i0]?=some e:=⟨_,getElem?_eq_getElem j0⟩;rw[OI i0 e0 b1]at b0;obtain⟨q,r,rfl,q0,r0⟩:=c1.all (by omega);obtain⟨i,d,g0,y⟩:=r0 i0 _ b1;refine Ao Aa vV K9 [] λz5 t2=>?_;refine Aw (g:=q) (off:=r) (cap:=f) (sz:=1) (k:=i0) (len:=scs.length) (some 36) j0 Tryz.underlying30 ?_;refine EF 67 q (r+i0*1) (V i e0.length d) (some 37) (by simpa using Aj g0 q0 t2.B 0 _ rfl) ?_;refine AC vU t2 [] λh3 s2=>?_;refine AW s2 (args:=[V i e0.length d]) (SB i e0 d h3 (y.below s2.B) (by exact r1 _ (mem_of_getElem? b1))) λx5 g4=>?_;refine AC vT g4 [] λv5 r2=>?_;refine AH (!(Eg e0)) (λl1=>?_) (λl1=>?_)
  ·refine AC AFf r2 [] λu5 q2=>?_;have hS:(Cc ins scs pas rts)=false:=by rw[b0,l1]<;>rfl
   exact AN q2 (0,0) (I false) ⟨by rw[hS]<;>rfl,q2.B⟩
  refine AC (Ab fE) r2 [] λg3 e4=>?_;refine AX [(1,Z (U w)),(2,I false),(32,V (some ⟨q,r,none⟩) scs.length f),(33,J ((scs.length:Int))),(34,J (IntKind.i64.wrap ((i0:Int)+1)))] λt4=>?_;have b4:Wk w g3 [N (U w) [V l ins.length p,V (some ⟨q,r,none⟩) scs.length f,V j pas.length o,V t rts.length b] 33] [] []:=e4.pk [0] [];rw[Bs i0 (by omega)];refine m0 _ _ ⟨i0+1,t4,j0,rfl,by rw[b0,l1]<;>rfl,b4⟩ ?_;show scs.length-AP (J ((i0+1:Nat):Int))<scs.length-AP (J (i0:Int));simp only[AP];omega
 have v1:i0=scs.length:=by have:=of_decide_eq_false m1;omega
 rw[v1,drop_length,O0]at b0;refine AC fD K9 [(0,3)] λf3 a4=>?_;have z3:Wk w f3 [N (U w) [V l ins.length p,V h scs.length f,V j pas.length o,V t rts.length b] 33] [] []:=a4.pk [0] [];have a0:(Cc ins scs pas rts)=C3 ins scs pas rts rts 0:=by rw[b0]<;>rfl
 refine AX [(1,Z (U w)),(2,I false),(43,V t rts.length b),(44,J ((rts.length:Int))),(45,J (((0:Nat):Int)))] λq4=>?_;refine Bp (by kernel_rfl) (λE o1=>∃(s:Nat) (E0:Nat->Value),s<=rts.length/\E=BN E0 [(1,Z (U w)),(2,I false),(43,V t rts.length b),(44,J ((rts.length:Int))),(45,J ((s:Int)))]/\(Cc ins scs pas rts)=C3 ins scs pas rts (List.drop s rts) s/\Wk w o1 [N (U w) [V l ins.length p,V h scs.length f,V j pas.length o,V t rts.length b] 33] [] []) (λE _=>rts.length-AP (E 45)) ⟨0,q4,Nat.zero_le _,rfl,a0,z3⟩ ?_;clear a0;rintro E o1 ⟨s,E0,b6,rfl,a0,y3⟩ l0;refine AC Qs y3 [] λt5 p2=>?_;refine AH (decide ((s:Int)<(rts.length:Int))) (λk1=>?_) (λk1=>?_)
 ·have d0:s<rts.length:=by have:=of_decide_eq_true k1;omega
  obtain⟨a,w0⟩:∃e,rts[s]?=some e:=⟨_,getElem?_eq_getElem d0⟩;rw[OH s a w0]at a0;obtain⟨q,r,rfl,q0,r0⟩:=p0.all (by omega);obtain⟨i,d,g0,y⟩:=r0 s _ w0;refine Ao Aa lP p2 [] λz o2=>?_;refine Aw (g:=q) (off:=r) (cap:=b) (sz:=6) (k:=s) (len:=rts.length) (some 48) d0 Tryz.underlying31 ?_;refine Bd 50 q (r+s*6) _ (some 49) (Aj g0 q0 o2.B) ?_;refine Bg 12 lO [N (U w) [V l ins.length p,V h scs.length f,V j pas.length o,V (some ⟨q,r,none⟩) rts.length b] 33,N (U z) [Y (a.1),I (a.2.1),J a.2.2.1,J a.2.2.2.1,J a.2.2.2.2.1,V i a.2.2.2.2.2.length d] 50] o2 [(1,0)] λq5 n2=>?_;refine Ap n2 [(1,1,5),(5,1,0)] [⟨6,[(55,D [Y (a.1),I (a.2.1),J a.2.2.1,J a.2.2.2.1,J a.2.2.2.2.1,V i a.2.2.2.2.2.length d])],I (Dw a.2.1 a.2.2.1 a.2.2.2.1 a.2.2.2.2.1),(!(decide (4096<(a.2.2.2.2.2.length:Int))))&&(true)⟩] n2.G (λsp c0=>?_) λk5 f6 x3=>?_
  ·rw[mem_singleton.1 c0];exact AU 61 [.tmp 55] _ (λ_=>by kernel_rfl) λhc u hu=>AR hu (Oq a.1 a.2.1 a.2.2.1 a.2.2.2.1 a.2.2.2.2.1 i a.2.2.2.2.2.length d u)
  refine AC Wa x3 [] λh5 m2=>?_;refine AH (cond (decide (4096<(a.2.2.2.2.2.length:Int))) (true) (!(Dw a.2.1 a.2.2.1 a.2.2.2.1 a.2.2.2.2.1))) (λh1=>?_) (λh1=>?_)
  ·refine AC ABu m2 [] λg5 l2=>?_;have hS:(Cc ins scs pas rts)=false:=by rw[a0,h1]<;>rfl
   exact AN l2 (0,0) (I false) ⟨by rw[hS]<;>rfl,l2.B⟩
  refine AC WZ m2 [(1,5)] λe3 v3=>?_;have u3:Wk w e3 [N (U w) [V l ins.length p,V h scs.length f,V j pas.length o,V (some ⟨q,r,none⟩) rts.length b] 33,N (U z) [Y (a.1),I (a.2.1),J a.2.2.1,J a.2.2.2.1,J a.2.2.2.2.1,V i a.2.2.2.2.2.length d] 50] [] []:=v3.pk [0,1] [];have u4:a.2.2.2.2.2.length<=4294967296:=s1 _ (mem_of_getElem? w0);have x:(Cc ins scs pas rts)=DT ins scs pas rts s (cond (!((DJ a.2.2.2.2.2))) (false) (C3 ins scs pas rts (List.drop (s+1) rts) (s+1))) a.2.2.2.2.2 0:=by rw[a0,h1]<;>rfl
  refine AX [(1,Z (U w)),(2,I false),(5,J ((s:Int))),(6,Z (U z)),(43,V (some ⟨q,r,none⟩) rts.length b),(44,J ((rts.length:Int))),(45,J ((s:Int))),(60,V i a.2.2.2.2.2.length d),(61,J ((a.2.2.2.2.2.length:Int))),(62,J (((0:Nat):Int)))] λn4=>?_;refine Bp (by kernel_rfl) (λE n1=>∃(v:Nat) (E0:Nat->Value),v<=a.2.2.2.2.2.length/\E=BN E0 [(1,Z (U w)),(2,I false),(5,J ((s:Int))),(6,Z (U z)),(43,V (some ⟨q,r,none⟩) rts.length b),(44,J ((rts.length:Int))),(45,J ((s:Int))),(60,V i a.2.2.2.2.2.length d),(61,J ((a.2.2.2.2.2.length:Int))),(62,J ((v:Int)))]/\(Cc ins scs pas rts)=DT ins scs pas rts s (cond (!((DJ a.2.2.2.2.2))) (false) (C3 ins scs pas rts (List.drop (s+1) rts) (s+1))) (List.drop v a.2.2.2.2.2) v/\MG a.2.2.2.2.2 v/\Wk w n1 [N (U w) [V l ins.length p,V h scs.length f,V j pas.length o,V (some ⟨q,r,none⟩) rts.length b] 33,N (U z) [Y (a.1),I (a.2.1),J a.2.2.1,J a.2.2.2.1,J a.2.2.2.2.1,V i a.2.2.2.2.2.length d] 50] [] []) (λE _=>a.2.2.2.2.2.length-AP (E 62)) ⟨0,n4,Nat.zero_le _,rfl,x,by exact Yu _,u3⟩ ?_;clear x;rintro E n1 ⟨v,E0,a6,rfl,x,x1,t3⟩ k0;refine AC Qr t3 [] λf5 k2=>?_;refine AH (decide ((v:Int)<(a.2.2.2.2.2.length:Int))) (λg1=>?_) (λg1=>?_)
  ·have h0:v<a.2.2.2.2.2.length:=by have:=of_decide_eq_true g1;omega
   obtain⟨m,a1⟩:∃e,a.2.2.2.2.2[v]?=some e:=⟨_,getElem?_eq_getElem h0⟩;rw[OG v m a1]at x;obtain⟨t0,v0,rfl,y1,z1⟩:=y.all (by omega);have q1:=z1 v _ a1;refine Ao Aa lN k2 [] λc3 h2=>?_;refine Aw (g:=t0) (off:=v0) (cap:=d) (sz:=6) (k:=v) (len:=a.2.2.2.2.2.length) (some 65) h0 Tryz.underlying48 ?_;refine Bd 130 t0 (v0+v*6) _ (some 66) (Aj q1 y1 h2.B) ?_;refine Bg 17 lM [N (U w) [V l ins.length p,V h scs.length f,V j pas.length o,V (some ⟨q,r,none⟩) rts.length b] 33,N (U z) [Y (a.1),I (a.2.1),J a.2.2.1,J a.2.2.2.1,J a.2.2.2.2.1,V (some ⟨t0,v0,none⟩) a.2.2.2.2.2.length d] 50,N (U c3) [J m.1,J m.2.1,J m.2.2.1,J m.2.2.2.1,J m.2.2.2.2.1,J m.2.2.2.2.2] 130] h2 [(2,0)] λe5 x0=>?_;refine Ap x0 [(0,2,0),(4,0,0),(7,2,0)] [⟨1,[(67,D [J m.1,J m.2.1,J m.2.2.1,J m.2.2.2.1,J m.2.2.2.2.1,J m.2.2.2.2.2])],I (Co m.1 m.2.2.1 m.2.2.2.1 m.2.2.2.2.1 m.2.2.2.2.2),true⟩,⟨8,[(71,D [V l ins.length p,V h scs.length f,V j pas.length o,V (some ⟨q,r,none⟩) rts.length b]),(72,J ((s:Int))),(73,J ((v:Int))),(74,D [J m.1,J m.2.1,J m.2.2.1,J m.2.2.2.1,J m.2.2.2.2.1,J m.2.2.2.2.2])],I ((CW ins.length scs.length pas.length rts s (v:Int) m.1 m.2.1)),(!(!(Co m.1 m.2.2.1 m.2.2.2.1 m.2.2.2.2.1 m.2.2.2.2.2)))&&(true)⟩] x0.G (λsp c0=>?_) λc5 e6 r3=>?_
   ·rcases mem_cons.1 c0 with rfl | c0
    ·exact AU 62 [.tmp 67] _ (λ_=>by kernel_rfl) λhc u hu=>AR hu (P8 m.1 m.2.1 m.2.2.1 m.2.2.2.1 m.2.2.2.2.1 m.2.2.2.2.2 u)
    obtain rfl:=mem_singleton.1 c0;exact AU 63 [.tmp 71,.tmp 72,.tmp 73,.tmp 74] _ (λ_=>by kernel_rfl) λhc u hu=>AR hu (Ul l ins.length p h scs.length f j pas.length o (some ⟨q,r,none⟩) rts b s (v:Int) m.1 m.2.1 m.2.2.1 m.2.2.2.1 m.2.2.2.2.1 m.2.2.2.2.2 u (p0.below (x0.B.trans (hu.mono x0.B.size))) (by first | assumption | omega | (simp<;>omega)) d0)
   refine AC lL r3 [] λb5 g2=>?_;refine AH (cond (!(Co m.1 m.2.2.1 m.2.2.2.1 m.2.2.2.2.1 m.2.2.2.2.2)) (true) (!((CW ins.length scs.length pas.length rts s (v:Int) m.1 m.2.1)))) (λf1=>?_) (λf1=>?_)
   ·refine AC ABt g2 [] λa5 f2=>?_;have hS:(Cc ins scs pas rts)=false:=by rw[x,f1]<;>rfl
    exact AN f2 (0,0) (I false) ⟨by rw[hS]<;>rfl,f2.B⟩
   refine AC (Ab WZ) g2 [] λb3 q3=>?_;refine AX [(1,Z (U w)),(2,I false),(5,J ((s:Int))),(6,Z (U z)),(43,V (some ⟨q,r,none⟩) rts.length b),(44,J ((rts.length:Int))),(45,J ((s:Int))),(60,V (some ⟨t0,v0,none⟩) a.2.2.2.2.2.length d),(61,J ((a.2.2.2.2.2.length:Int))),(62,J (IntKind.i64.wrap ((v:Int)+1)))] λk4=>?_;have p3:Wk w b3 [N (U w) [V l ins.length p,V h scs.length f,V j pas.length o,V (some ⟨q,r,none⟩) rts.length b] 33,N (U z) [Y (a.1),I (a.2.1),J a.2.2.1,J a.2.2.2.1,J a.2.2.2.2.1,V (some ⟨t0,v0,none⟩) a.2.2.2.2.2.length d] 50] [] []:=q3.pk [0,1] [];rw[Bs v (by omega)];refine k0 _ _ ⟨v+1,k4,h0,rfl,by rw[x,f1]<;>rfl,by exact Xc x1 a1 w0 (by assumption),p3⟩ ?_;show a.2.2.2.2.2.length-AP (J ((v+1:Nat):Int))<a.2.2.2.2.2.length-AP (J (v:Int));simp only[AP];omega
  have z0:v=a.2.2.2.2.2.length:=by have:=of_decide_eq_false g1;omega
  rw[z0,drop_length,Oy]at x;refine AC lK k2 [(1,5)] λa3 d2=>?_;refine BL (YO i a.2.2.2.2.2 d a3 (y.below d2.B) (by first | assumption | omega | (simp<;>omega)) (Yv x1 z0)) λen z4 hh=>?_;obtain⟨rfl,l3⟩:=hh;refine⟨_,rfl,?_⟩;have o3:=d2.below l3;refine AC lJ o3 [] λx4 c2=>?_;refine AH (!((DJ a.2.2.2.2.2))) (λd1=>?_) (λd1=>?_)
  ·refine AC ABs c2 [] λw4 b2=>?_;have hS:(Cc ins scs pas rts)=false:=by rw[x,d1]<;>rfl
   exact AN b2 (0,0) (I false) ⟨by rw[hS]<;>rfl,b2.B⟩
  refine AC (Ab fD) c2 [] λz2 n3=>?_;refine AX [(1,Z (U w)),(2,I false),(43,V (some ⟨q,r,none⟩) rts.length b),(44,J ((rts.length:Int))),(45,J (IntKind.i64.wrap ((s:Int)+1)))] λh4=>?_;have m3:Wk w z2 [N (U w) [V l ins.length p,V h scs.length f,V j pas.length o,V (some ⟨q,r,none⟩) rts.length b] 33] [] []:=n3.pk [0] [];rw[Bs s (by omega)];refine l0 _ _ ⟨s+1,h4,d0,rfl,by rw[x,d1]<;>rfl,m3⟩ ?_;show rts.length-AP (J ((s+1:Nat):Int))<rts.length-AP (J (s:Int));simp only[AP];omega
 have t1:s=rts.length:=by have:=of_decide_eq_false k1;omega
 rw[t1,drop_length,Oz]at a0;refine AC ABr p2 [] λv4 a2=>?_;have hS:(Cc ins scs pas rts)=true:=by rw[a0]<;>rfl
 exact AN a2 (0,0) (I true) ⟨by rw[hS]<;>rfl,a2.B⟩
end
end Go.Proofs.YtkpemkkbjfbmaaaGreat
namespace Go.Proofs.YtkpemkkbjfbmaaaGreat
open List
open Go.RowKit
set_option maxRecDepth 100000
set_option maxHeartbeats 1000000
theorem LO {a:List Int} {i j:Nat} {v:Int} (hi:i<a.length):(a.set i v).getD j default=if i=j then v else a.getD j default:=by
 rw[getD_eq_getElem?_getD,getD_eq_getElem?_getD,getElem?_set];by_cases h:i=j
 ·rw[if_pos h,if_pos h,if_pos hi];rfl
 rw[if_neg h,if_neg h]
section
variable {cs tl:List AM} {x:AM} {i:Nat} {a:List Int}
theorem qv {h b:Int} (hi:i<=4294967290) (hl:i+1<a.length) (ha:a.getD i default=h) (r:0<=h) (q:h<=64) (ht:(Af x.1).1<=h) (f:0<=(Af x.1).1) (j:0<=(Af x.1).2) (g:(Af x.1).2<=1) (e:h-(Af x.1).1+(Af x.1).2=b) (l:b<=64) (d:x.1≠16) (c:x.1≠17)
  (hn:a.getD (i+1) default=-1\/a.getD (i+1) default=b):CT cs (x::tl) i a=CT cs tl (i+1) (a.set (i+1) b):=by
 have k:BZ i x=[i+1]:=by unfold BZ Do;rw[IntWalk.i64_in ((i:Int)+1) (by omega),show(x.1==16)=false from by simpa using d,show(x.1==17)=false from by simpa using c];show[((i:Int)+1).toNat]=[i+1];congr 1
 have p:(h == -1)=false:=by simp;omega
 have o:decide (h<(Af x.1).1)=false:=by simp;omega
 have n:decide (64<b)=false:=by simp;omega
 rw[CT,ha,IntWalk.i64_in (h-(Af x.1).1) (by omega),IntWalk.i64_in (h-(Af x.1).1+(Af x.1).2) (by omega),e,p,o,n,k];simp only[cond_false];rw[Cv,Cv];have m:cond (!(a.getD (i+1) default == -1)) (!(a.getD (i+1) default==b)) false=false:=by rcases hn with hn | hn<;>rw[hn]<;>simp
 rw[ha,IntWalk.i64_in (h-(Af x.1).1) (by omega),IntWalk.i64_in (h-(Af x.1).1+(Af x.1).2) (by omega),e,m];rfl
end
section
variable (mi ms mp mr:List (List UInt8×Int))
def xC (cs:List AM) (code:List AM) (n:Nat) (h h':Int):Prop:=∀(post:List AM) (a:List Int),n+code.length<=4294967280->n+code.length<a.length->a.getD n default=h->
 (∀j,n<j->j<n+code.length->a.getD j default=-1)->(a.getD (n+code.length) default=-1\/a.getD (n+code.length) default=h')->∃a',CT cs (code++post) n a=CT cs post (n+code.length) a'/\a'.length=a.length/\a'.getD (n+code.length) default=h'/\∀j,n+code.length<j->a'.getD j default=a.getD j default
theorem xC.one {cs:List AM} {x:AM} {n:Nat} {h b:Int} (m:0<=h) (l:h<=64) (ht:(Af x.1).1<=h) (c:0<=(Af x.1).1) (e:0<=(Af x.1).2) (d:(Af x.1).2<=1) (k:h-(Af x.1).1+(Af x.1).2=b) (f:b<=64) (i:x.1≠16) (g:x.1≠17):xC cs [x] n h b:=λpost a hs hl ha hi he=>by rw[length_singleton]at hs hl hi he ⊢;refine⟨a.set (n+1) b,?_,length_set,by rw[LO hl,if_pos rfl],λj o=>by rw[LO hl,if_neg (by omega)]⟩;exact qv (by omega) hl ha m l ht c e d k f i g he
end
theorem qw (cs:List AM):DJ cs=CT cs cs 0 ((replicate (cs.length+1) (-1)).set 0 0):=by
 have go:∀(m:Nat) (i:Nat) (a:List Int),a.length=i+m->(∀j,j<i->a.getD j default=-1)->Du cs (replicate m 0) i a=CT cs cs 0 ((replicate (i+m) (-1)).set 0 0):=by
  intro m
  induction m with
  | zero=>
   intro i a hl ha;rw[replicate_zero,Du];congr 2;refine ext_getElem (by rw[length_replicate,hl]) λj c h2=>?_;have:=ha j (by omega);rw[getD_eq_getElem?_getD,getElem?_eq_getElem c]at this;rw[getElem_replicate];exact this
  | succ m ih=>
   intro i a hl ha;rw[replicate_succ,Du,ih (i+1) (a.set i (-1)) (by rw[length_set];omega) (λj b=>by
    rw[LO (by omega)]
    split
    ·rfl
    exact ha j (by omega)),Nat.add_right_comm i 1 m,<-Nat.add_assoc]
 have:=go (cs.length+1) 0 (replicate (cs.length+1) 0) (by rw[length_replicate];omega) (λj b=>absurd b (Nat.not_lt_zero _));rw[Nat.zero_add]at this;exact this
structure oa (h:List Int) (i:Nat) (x:AM):Prop where
 known:0<=h.getD i default
 takes:(Af x.1).1<=h.getD i default
 top:h.getD i default-(Af x.1).1+(Af x.1).2<=64
 next:∀t∈BZ i x,h.getD t default=h.getD i default-(Af x.1).1+(Af x.1).2
structure xB (cs:List AM) (h:List Int):Prop where
 start:h.getD 0 default=0
 stop:h.getD cs.length default=1
 cap:∀j,h.getD j default<=64
 step:∀(i:Nat) (x:AM),cs[i]?=some x->oa h i x
theorem JL (op:Int):0<=(Af op).1/\(Af op).1<=2/\0<=(Af op).2/\(Af op).2<=1:=by
 unfold Af;simp only[Bool.cond_eq_ite]
 repeat (first | (refine⟨?_,?_,?_,?_⟩<;>(dsimp only;omega)) | split)
theorem Jb {c a:Bool} (h:cond c false a=true):c=false/\a=true:=by
 cases c
 ·exact⟨rfl,h⟩
 cases h
theorem oR {l:List Int} {x:AM} {i:Nat} {k:List Int->Bool} {v:Int} (hv:IntKind.i64.wrap (IntKind.i64.wrap (l.getD i default-(Af x.1).1)+(Af x.1).2)=v) (f:v≠-1) :
  ∀(ts:List Nat) (a:List Int),(∀t∈ts,t<a.length)->Cv l x i k ts a=true->∃b,k b=true/\b.length=a.length/\(∀j,b.getD j default=a.getD j default\/(a.getD j default=-1/\b.getD j default=v))/\∀t∈ts,b.getD t default=v
 | [],a,_,h=>⟨a,by rw[Cv]at h;exact h,rfl,λ_=>.inl rfl,λ_ h=>by cases h⟩
 | t::ts,a,hi,h=>by
  rw[Cv,hv]at h;have ht:t<a.length:=hi t (mem_cons_self ..);have hc:a.getD t default=-1\/a.getD t default=v:=by
   by_cases h1:a.getD t default=-1
   ·exact .inl h1
   by_cases h2:a.getD t default=v
   ·exact .inr h2
   have p:(a.getD t default == -1)=false:=by simpa using h1
   have o:(a.getD t default==v)=false:=by simpa using h2
   rw[p,o]at h
   cases h
  have n:Cv l x i k ts (a.set t v)=true:=(Jb h).2;obtain⟨b,m,hl,hb,g⟩:=oR hv f ts (a.set t v) (λt ht=>by rw[length_set];exact hi t (mem_cons_of_mem _ ht)) n;have c:∀j,(a.set t v).getD j default=if t=j then v else a.getD j default:=λj=>LO ht
  have d:b.getD t default=v:=by
   rcases hb t with e | ⟨e,_⟩
   ·rw[e,c,if_pos rfl]
   rw[c,if_pos rfl]at e;exact absurd e f
  refine⟨b,m,by rw[hl,length_set],λj=>?_,λs hs=>?_⟩
  ·by_cases hj:t=j
   ·subst hj;rcases hc with hc | hc
    ·exact .inr ⟨hc,d⟩
    exact .inl (d.trans hc.symm)
   have:=hb j;rw[c,if_neg hj]at this;exact this
  rcases mem_cons.1 hs with rfl | hs
  ·exact d
  exact g s hs
theorem oS {cs:List AM} (f:JI cs) (hl:cs.length<=4294967296):∀(m i:Nat) (a:List Int),i+m=cs.length->a.length=cs.length+1->(∀j,-1<=a.getD j default/\a.getD j default<=64)->CT cs (cs.drop i) i a=true->
  ∃h:List Int,(∀j,a.getD j default≠-1->h.getD j default=a.getD j default)/\h.getD cs.length default=1/\(∀j,h.getD j default<=64)/\∀(j:Nat) (x:AM),i<=j->cs[j]?=some x->oa h j x
 | 0,i,a,hi,_,hr,hb=>by rw[drop_eq_nil_of_le (by omega),CT]at hb;exact⟨a,λ_ _=>rfl,by simpa using hb,λj=>(hr j).2,λj x h1 h2=>absurd (List.getElem?_eq_some_iff.1 h2).1 (by omega)⟩
 | m+1,i,a,hi,hal,hr,hb=>by
  have o:i<cs.length:=by omega
  obtain⟨x,hx⟩:∃x,cs[i]?=some x:=⟨cs[i],getElem?_eq_getElem o⟩;rw[KK i x hx]at hb;have w:=hr i;obtain⟨e0,e1,e2,e3⟩:=JL x.1;have r:a.getD i default≠-1:=λe=>by
   rw[e]at hb
   cases hb
  have h1:(Af x.1).1<=a.getD i default:=by
   by_cases h:a.getD i default<(Af x.1).1
   ·rw[decide_eq_true h,show(a.getD i default == -1)=false by simpa using r]at hb
    cases hb
   omega
  rw[show(a.getD i default == -1)=false by simpa using r,decide_eq_false (show ¬a.getD i default<(Af x.1).1 by omega)]at hb;simp only[cond_false]at hb;have u:IntKind.i64.wrap (IntKind.i64.wrap (a.getD i default-(Af x.1).1)+(Af x.1).2)=a.getD i default-(Af x.1).1+(Af x.1).2:=by rw[IntWalk.i64_in (a.getD i default-(Af x.1).1) (by omega),IntWalk.i64_in _ (by omega)]
  have h2:a.getD i default-(Af x.1).1+(Af x.1).2<=64:=by
   by_cases h:64<a.getD i default-(Af x.1).1+(Af x.1).2
   ·rw[u,decide_eq_true h]at hb
    cases hb
   omega
  have q:Cv a x i (λb=>CT cs (cs.drop (i+1)) (i+1) b) (BZ i x) a=true:=(Jb hb).2;obtain⟨b,z,b0,n,l⟩:=oR u (by omega) _ a (λt ht=>by rw[hal];exact HS f hl hx t ht) q;obtain⟨h,v,c,k,d⟩:=oS f hl m (i+1) b (by omega) (by omega) (λj=>by
   rcases n j with e | ⟨_,e⟩
   ·rw[e];exact hr j
   rw[e];omega) z
  have g:∀j,a.getD j default≠-1->h.getD j default=a.getD j default:=λj f=>by
   rcases n j with e | ⟨e,_⟩
   ·rw[v j (by rw[e];exact f),e]
   exact absurd e f
  refine⟨h,g,c,k,λj y a0 s=>?_⟩;by_cases hji:j=i
  ·subst hji;obtain rfl:=Option.some.inj (hx.symm.trans s);have p:=g j r;refine⟨by omega,by omega,by omega,λt ht=>?_⟩;rw[v t (by rw[l t ht];omega),l t ht,p]
  exact d j y (by omega) s
theorem xv {cs:List AM} (b:JI cs) (hl:cs.length<=4294967296) (hb:DJ cs=true):∃h,xB cs h:=by
 rw[qw]at hb;have hg:∀j,((replicate (cs.length+1) (-1:Int)).set 0 0).getD j default=if 0=j then 0 else(replicate (cs.length+1) (-1:Int)).getD j default:=λj=>LO (by rw[length_replicate];omega)
 obtain⟨h,c,hs,hc,a⟩:=oS b hl cs.length 0 ((replicate (cs.length+1) (-1:Int)).set 0 0) (by omega) (by rw[length_set,length_replicate]) (λj=>by
  rw[hg]
  split
  ·omega
  rw[getD_eq_getElem?_getD,getElem?_replicate]
  split
  ·exact⟨Int.le_refl (-1),(by decide:(-1:Int)<=64)⟩
  exact⟨(by decide:(-1:Int)<=0),(by decide:(0:Int)<=64)⟩) (by rw[drop_zero];exact hb)
 exact⟨h,by rw[c 0 (by rw[hg,if_pos rfl];decide),hg,if_pos rfl],hs,hc,λi x hx=>a i x (Nat.zero_le _) hx⟩
def kp (s s':YZ):Prop:=ACZ s.1->ACZ s'.1
theorem kp.refl (s:YZ):kp s s:=λh=>h
theorem kp.trans {s s' b:YZ} (h:kp s s') (c:kp s' b):kp s b:=λa=>c (h a)
def vR (r:Int×Int×Int):Prop:=ga r.1/\ga r.2.1
theorem vR.of {a b e:Int} (f:-2000000000000<=a) (h2:a<=2000000000000) (d:-2000000000000<=b) (c:b<=2000000000000):vR (a,b,e):=
 ⟨⟨by show _<=a;omega,by show a<=_;omega⟩,⟨by show _<=b;omega,by show b<=_;omega⟩⟩
end Go.Proofs.YtkpemkkbjfbmaaaGreat

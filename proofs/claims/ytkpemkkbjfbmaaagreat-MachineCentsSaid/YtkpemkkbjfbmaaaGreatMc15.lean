/- Contracts of functions, part 15. -/
import Derived.Test.YtkpemkkbjfbmaaaGreatMc13
import Derived.Test.YtkpemkkbjfbmaaaGreatMc14
set_option linter.all false
namespace Go.Proofs.YtkpemkkbjfbmaaaGreat
open List
noncomputable section
open Go.RowKit
set_option maxRecDepth 100000
set_option maxHeartbeats 1000000
attribute [local irreducible] BI BQ AD AE AG Au Ab AO A8 Bi Ct BX BO At Fr
theorem KG {ds:List Df} {p1:Int}:∀(es:List Df) (i:Nat) (a:List Nat),(∀x∈a,x<i)->∀x∈C0 ds p1 es i a,x<i+es.length
 | [],i,a,h=>λx hx=>by rw[C0]at hx;exact h x hx
 | e::es,i,a,h=>λx hx=>by
  rw[C0]at hx;rw[length_cons]
  revert hx
  cases (cond (cond (e.kind==1) (true) (e.kind==5)) (true) (cond (decide (e.frm<=p1)) (!(Eb ds p1 i)) (false)))<;>intro hx
  ·have:=KG es (i+1) a (λx hx=>Nat.lt_succ_of_lt (h x hx)) x hx;omega
  have:=KG es (i+1) (a++[i]) (λx hx=>by
   rcases mem_append.1 hx with hx | hx
   ·exact Nat.lt_succ_of_lt (h x hx)
   rw[mem_singleton.1 hx];exact Nat.lt_succ_self i) x hx
  omega
theorem KF {ds:List Df} {p1:Int}:∀(es:List Df) (i:Nat) (a:List Nat),(C0 ds p1 es i a).length<=a.length+es.length
 | [],i,a=>by rw[C0];exact Nat.le_refl _
 | e::es,i,a=>by
  rw[C0,length_cons]
  cases (cond (cond (e.kind==1) (true) (e.kind==5)) (true) (cond (decide (e.frm<=p1)) (!(Eb ds p1 i)) (false)))
  ·have:=KF (ds:=ds) (p1:=p1) es (i+1) a;exact Nat.le_trans this (by omega)
  have:=KF (ds:=ds) (p1:=p1) es (i+1) (a++[i]);rw[length_append,length_singleton]at this;exact Nat.le_trans this (by omega)
theorem Fp {ds:List Df} {p1:Int}:∀x∈As ds p1,x<ds.length:=λx hx=>by have:=KG ds 0 [] (λx hx=>by cases hx) x hx;omega
theorem L4 {ds:List Df} {p1:Int}:(As ds p1).length<=ds.length:=by have:=KF (ds:=ds) (p1:=p1) ds 0 [];simpa[As]using this
theorem GV {n:List UInt8} {ds:List Df} {p1:Int}:∀x∈Bb n ds p1,x<ds.length:=λx hx=>by
 unfold Bb at hx
 revert hx
 cases !(Ee n ds p1==0)<;>intro hx
 ·exact Fp x hx
 cases hx
theorem PS {n:List UInt8} {ds:List Df} {p1:Int}:(Bb n ds p1).length<=ds.length:=by
 unfold Bb
 cases !(Ee n ds p1==0)
 ·exact L4
 exact Nat.zero_le _
def CE (ds:List (Df)):List (Nat)->List (List UInt8)->List (List (Int×Int×Int))->List (List UInt8)->List (List UInt8×Int)->List (List UInt8×Int)->List (List UInt8×Int)->List (List UInt8)×List (List (Int×Int×Int))×List (List UInt8)×List (List UInt8×Int)×List (List UInt8×Int)×List (List UInt8×Int)×List (List UInt8×Int)
 | [],a0_0,a0_1,a0_2,a0_3,a0_4,a0_5=>(a0_0,a0_1,a0_2,a0_3,a0_4,a0_5,[])
 | e0::tl,a0_0,a0_1,a0_2,a0_3,a0_4,a0_5=>cond ((ds.getD e0 default).kind==1) (CE ds tl (a0_0++[(ds.getD e0 default).name]) a0_1 a0_2 (Ck a0_3 ((ds.getD e0 default).name) (a0_0.length:Int)) a0_4 a0_5) (cond ((ds.getD e0 default).kind==2) (CE ds tl a0_0 (a0_1++[(id (ds.getD e0 default).ents)]) a0_2 a0_3 (Ck a0_4 ((ds.getD e0 default).name) (a0_1.length:Int)) a0_5) (cond ((ds.getD e0 default).kind==5) (CE ds tl a0_0 a0_1 (a0_2++[(ds.getD e0 default).name]) a0_3 a0_4 (Ck a0_5 ((ds.getD e0 default).name) (a0_2.length:Int))) (CE ds tl a0_0 a0_1 a0_2 a0_3 a0_4 a0_5)))
theorem Ov {ds:List (Df)} {f:List (List UInt8)} {e:List (List (Int×Int×Int))} {d:List (List UInt8)} {c:List (List UInt8×Int)} {b:List (List UInt8×Int)} {a:List (List UInt8×Int)}:CE ds [] f e d c b a=((f,e,d,c,b,a,[])):=by rw[CE]
theorem Nz {ds:List (Df)} {c:List (List UInt8)} {b:List (List (Int×Int×Int))} {a:List (List UInt8)} {f:List (List UInt8×Int)} {e:List (List UInt8×Int)} {d:List (List UInt8×Int)} {es:List (Nat)} (i g:Nat) (hi:es[i]?=some g):CE ds (es.drop i) c b a f e d=(cond ((κ ds g).kind==1) (CE ds (es.drop (i+1)) (c++[(κ ds g).name]) b a (Ck f ((κ ds g).name) (c.length:Int)) e d) (cond ((κ ds g).kind==2) (CE ds (es.drop (i+1)) c (b++[(id (κ ds g).ents)]) a f (Ck e ((κ ds g).name) (b.length:Int)) d) (cond ((κ ds g).kind==5) (CE ds (es.drop (i+1)) c b (a++[(κ ds g).name]) f e (Ck d ((κ ds g).name) (a.length:Int))) (CE ds (es.drop (i+1)) c b a f e d)))):=by have hl:i<es.length:=(List.getElem?_eq_some_iff.1 hi).1;have he:es[i]=g:=(List.getElem?_eq_some_iff.1 hi).2;rw[<-getElem_cons_drop hl,CE]<;>(try rw[he])
def AA (p0a:List UInt8) (ds:List (Df)) (p1:Int):List (List UInt8)×List (List (Int×Int×Int))×List (List UInt8)×List (List UInt8×Int)×List (List UInt8×Int)×List (List UInt8×Int)×List (List UInt8×Int):=CE ds (Bb p0a ds p1) ([]) ([]) ([]) ([]) ([]) ([])
noncomputable def X7:Code:=Tryz.f27.body.getD .skip
def d6:=AB (Aq Ig 90 ([.code X7])) ([.code X7])
def d5:=AB (Aq Ig 90 (AD d6)) (AD d6)
def dy:=AB (Aq Ig 90 (AD d5)) (AD d5)
def pX:=AB (Aq Ig 90 (AD dy)) (AD dy)
def AAi:=Ψ pX
def SE:=Ψ AAi
def dx:=ν (Au SE)
def pW:=AB (Aq Aa 90 (AE dx)) (AE dx)
def AAh:=AB (Aq Aa 90 (AD (AD pW))) (AD (AD pW))
def pV:=ν (AD (AD AAh))
def d4:=Θ pV
def tt:=AB (Aq BH 90 (AD d4)) (AD d4)
def d3:=Ξ pV
def tq:=Θ d3
def tp:=Ac 12 (AD tq)
def IC:Array Oper:=(Da tp).getD #[]
def yC:Wr:=[(62,2),(64,4),(65,5),(66,6)]
def tn:=Ξ d3
def dz:=Θ tn
def tk:=AB (Aq BH 90 (AD dz)) (AD dz)
def AEz:=Ξ dx
theorem Tf (a:List UInt8) (q0:Option Addr) (ds:List (Df)) (j0:Nat) (p1:Int) (w:World) (r1:rowsDf w q0 ds) (e4:ds.length<=4294967296) (hs:a.length<=4294967296) (ht:∀d∈ds,Ii d) (c4:∀d∈ds,d.ents.length<=4294967296):Calls Tryz.prog 27 ([D [Y a,V q0 ds.length j0],J p1]:List Value).toArray w λe w'=>∃(y2:Option Addr) (o2:Nat) (v2:Option Addr) (n2:Nat) (n1:List OM) (t2:Option Addr) (m2 s2 r2 q2 p2:Nat),e=.returned (D [V y2 ((((AA a ds p1)).1).length) o2,V v2 n1.length n2,V t2 ((((AA a ds p1)).2.2.1).length) m2,V none 0 0,.map (some s2),.map (some r2),.map (some q2),.map (some p2)])/\n1.map Prod.fst=((AA a ds p1)).2.1/\Below (U w) w w'/\AY (U w) w' [Bo y2 o2 (((AA a ds p1)).1),El v2 n2 n1,Dv n1,Bo t2 m2 (((AA a ds p1)).2.2.1),Ag.th BW s2 (((AA a ds p1)).2.2.2.1),Ag.th BW r2 (((AA a ds p1)).2.2.2.2.1),Ag.th BW q2 (((AA a ds p1)).2.2.2.2.2.1),Ag.th BW p2 (((AA a ds p1)).2.2.2.2.2.2)]:=by
 refine AS (fn:=Tryz.f27) (c:=X7) (n:=92) ?_;have K1:=Wk.start w;refine Bn Ig d6 [N (U w) [Y a,V q0 ds.length j0] 27,N (U w+1) [V none 0 0,V none 0 0,V none 0 0,V none 0 0,.map none,.map none,.map none,.map none] 87] K1 [] λw1 K2=>?_;refine Je BW K2.H (Cr d6) (by kernel_rfl) (t:=85) (by kernel_rfl) λw2 Z2 Hn b2=>?_;have K3:=K2.add b2 Hn;refine Ao Ig d5 K3 [] λw3 K4=>?_;refine Je BW K4.H (Cr d5) (by kernel_rfl) (t:=85) (by kernel_rfl) λw4 Z4 Hn b4=>?_;have K5:=K4.add b4 Hn;refine Ao Ig dy K5 [] λw5 K6=>?_;refine Je BW K6.H (Cr dy) (by kernel_rfl) (t:=85) (by kernel_rfl) λw6 Z6 Hn b6=>?_;have K7:=K6.add b6 Hn;refine Ao Ig pX K7 [] λw7 K8=>?_;refine Je BW K8.H (Cr pX) (by kernel_rfl) (t:=85) (by kernel_rfl) λw8 Z8 Hn b8=>?_;have K9:=K8.add b8 Hn;refine An AAi [N (U w) [Y a,V q0 ds.length j0] 27,N (U w+1) [V none 0 0,V none 0 0,V none 0 0,V none 0 0,.map none,.map none,.map none,.map none] 87,N (U w8) [V none 0 0,V none 0 0,V none 0 0,V none 0 0,.map (some (U w1)),.map (some (U w3)),.map (some (U w5)),.map (some (U w7))] 87] K9 [(2,0),(0,0)] λw9 p3=>?_;refine BL (iK a q0 ds j0 p1 w9 (r1.below p3.B) (by first | assumption | omega | (simp<;>omega)) hs ht) λen r9 hh=>?_;obtain⟨a1,c0,rfl,q5,Hn⟩:=hh;refine⟨_,rfl,?_⟩;have v7:=p3.join q5 Hn;have t9:=PS (n:=a) (ds:=ds) (p1:=p1);refine AC SE v7 [] λz3 u7=>?_;have q7:Wk w z3 [N (U w) [Y a,V q0 ds.length j0] 27,N (U w+1) [V none 0 0,V none 0 0,V none 0 0,V none 0 0,.map none,.map none,.map none,.map none] 87,N (U w8) [V none 0 0,V none 0 0,V none 0 0,V none 0 0,.map (some (U w1)),.map (some (U w3)),.map (some (U w5)),.map (some (U w7))] 87] [(Ag.th BW (U w1) ([])),(Ag.th BW (U w3) ([])),(Ag.th BW (U w5) ([])),(Ag.th BW (U w7) ([])),(Bc a1 c0 (Bb a ds p1))] []:=u7.pk [0,1,2] [0,1,2,3,4];have k7:=q7.addNil 9 1 (λe r=>r=FG e);have h7:=k7.addNil 67 1 (λe r=>r=Sz e);have g7:=h7.addFam O8;have f7:=g7.addNil 9 1 (λe r=>r=FG e);have r0:(AA a ds p1)=CE ds (Bb a ds p1) ([]) ([]) ([]) ([]) ([]) ([]):=by unfold AA;rfl
 refine AX [(2,Z (U w)),(4,Z (U w+1)),(5,Z (U w8)),(16,V a1 ((Bb a ds p1).length) c0),(17,J (((Bb a ds p1).length:Int))),(18,J (((0:Nat):Int)))] λg8=>?_;refine Bp (by kernel_rfl) (λE g2=>∃(i0:Nat) (s:List (List UInt8)) (b:List OM) (q:List (List UInt8)) (h0:List (List UInt8×Int)) (g0:List (List UInt8×Int)) (d0:List (List UInt8×Int)) (b0:Option Addr) (a0:Nat) (p:Option Addr) (o:Nat) (y:Option Addr) (x:Nat) (E0:Nat->Value),i0<=(Bb a ds p1).length/\E=BN E0 [(2,Z (U w)),(4,Z (U w+1)),(5,Z (U w8)),(16,V a1 ((Bb a ds p1).length) c0),(17,J (((Bb a ds p1).length:Int))),(18,J ((i0:Int)))]/\(AA a ds p1)=CE ds (List.drop i0 (Bb a ds p1)) s (b.map Prod.fst) q h0 g0 d0/\s.length<=1*i0+0/\b.length<=1*i0+0/\q.length<=1*i0+0/\h0.length<=1*i0+0/\g0.length<=1*i0+0/\d0.length<=1*i0+0/\Wk w g2 [N (U w) [Y a,V q0 ds.length j0] 27,N (U w+1) [V none 0 0,V none 0 0,V none 0 0,V none 0 0,.map none,.map none,.map none,.map none] 87,N (U w8) [V b0 s.length a0,V p b.length o,V y q.length x,V none 0 0,.map (some (U w1)),.map (some (U w3)),.map (some (U w5)),.map (some (U w7))] 87] [(Ag.th BW (U w1) h0),(Ag.th BW (U w3) g0),(Ag.th BW (U w5) d0),(Ag.th BW (U w7) ([])),(Bc a1 c0 (Bb a ds p1)),(Bo b0 a0 s),(El p o b),(Dv b),(Bo y x q)] []) (λE _=>(Bb a ds p1).length-AP (E 18)) ⟨0,([]),([]),([]),([]),([]),([]),none,0,none,0,none,0,g8,Nat.zero_le _,rfl,r0,by simp,by simp,by simp,by simp,by simp,by simp,f7⟩ ?_;clear r0;rintro E g2 ⟨i0,s,b,q,h0,g0,d0,b0,a0,p,o,y,x,E0,u9,rfl,r0,v4,u4,t4,q4,n4,k4,e7⟩ p0;refine AC dx e7 [] λq9 l1=>?_;refine AH (decide ((i0:Int)<((Bb a ds p1).length:Int))) (λz1=>?_) (λz1=>?_)
 ·have t0:i0<(Bb a ds p1).length:=by have:=of_decide_eq_true z1;omega
  obtain⟨e0,v0⟩:∃e,(Bb a ds p1)[i0]?=some e:=⟨_,getElem?_eq_getElem t0⟩;rw[Nz i0 e0 v0]at r0;obtain⟨k0,rfl,h8⟩:=l1.H.rowAt (l1.ix 4) (l1.at 4 rfl) (by omega);refine Ao Aa pW l1 [] λo9 q1=>?_;refine Aw (g:=k0) (off:=0) (cap:=c0) (sz:=1) (k:=i0) (len:=(Bb a ds p1).length) (some 20) t0 Tryz.underlying22 ?_;refine EF 3 k0 (0+i0*1) (J ((e0:Int))) (some 21) (by simpa using(q1.H.cellsF (T:=3) (n:=1) (f:=F7) (c:=c0) (l:=(Bb a ds p1)) (λ_=>rfl) (q1.ix 4) (q1.at 4 rfl) v0) 0 _ rfl) ?_;obtain⟨x0,z0,rfl,f3,g3⟩:=r1.all (Nat.lt_of_le_of_lt (Nat.zero_le _) (GV _ (mem_of_getElem? v0)));have g4:ds[e0]?=some (κ ds e0):=getD_some default (GV _ (mem_of_getElem? v0));obtain⟨m0,l0,d1,c1,b3,s1,a5⟩:=g3 e0 _ g4;refine Ao Aa AAh q1 [(0,1)] λm1 o3=>?_;refine Aw (g:=x0) (off:=z0) (cap:=j0) (sz:=21) (k:=e0) (len:=ds.length) (some 25) (GV _ (mem_of_getElem? v0)) Tryz.underlying25 ?_;refine Bd 72 x0 (z0+e0*21) _ (some 26) (Aj b3 f3 o3.B) ?_;refine An pV [N (U w) [Y a,V (some ⟨x0,z0,none⟩) ds.length j0] 27,N (U w+1) [V none 0 0,V none 0 0,V none 0 0,V none 0 0,.map none,.map none,.map none,.map none] 87,N (U w8) [V b0 s.length a0,V p b.length o,V y q.length x,V none 0 0,.map (some (U w1)),.map (some (U w3)),.map (some (U w5)),.map (some (U w7))] 87,N (U m1) ((CL (κ ds e0) m0 l0 d1 c1)) 72] o3 [(3,0),(3,0)] λn9 n3=>?_;refine AH ((κ ds e0).kind==1) (λe1=>?_) (λe1=>?_)
  ·refine AC d4 n3 [(2,4),(3,1),(2,0)] λy3 m3=>?_;have Kf:=(m3.pickL (L':=[(Ag.th BW (U w1) h0)]++[(Ag.th BW (U w3) g0),(Ag.th BW (U w5) d0),(Ag.th BW (U w7) ([])),(Bc (θ k0) c0 (Bb a ds p1)),(Bo b0 a0 s),(El p o b),(Dv b),(Bo y x q)]) [0,1,2,3,4,5,6,7,8] rfl (by decide)).front;refine BL (JA _ (U w1) h0 ((κ ds e0).name) (s.length:Int) w y3 (ht _ (DR (GV _ (mem_of_getElem? v0)))).2 (by constructor<;>omega) (by((try simp only[maxLen,length_append,length_cons,length_nil,length_singleton])<;>omega)) m3.B Kf) λen l2 hh=>?_;obtain⟨rfl,k5,Hn⟩:=hh;refine⟨_,rfl,?_⟩;have c7:=Wk.unfront k5 Hn;refine Bn BH tt [N (U w) [Y a,V (some ⟨x0,z0,none⟩) ds.length j0] 27,N (U w+1) [V none 0 0,V none 0 0,V none 0 0,V none 0 0,.map none,.map none,.map none,.map none] 87,N (U w8) [V b0 s.length a0,V p b.length o,V y q.length x,V none 0 0,.map (some (U w1)),.map (some (U w3)),.map (some (U w5)),.map (some (U w7))] 87,N (U m1) ((CL (κ ds e0) m0 l0 d1 c1)) 72,N (U l2) [Y ((κ ds e0).name)] 9] c7 [(2,0),(3,1)] λk9 k1=>?_;refine CD k1.H (k1.ix 5) (k1.at 5 rfl) ((κ ds e0).name) [Y ((κ ds e0).name)] rfl (U l2) (k1.ent 4 (by kernel_rfl)) (Cr tt) (by kernel_rfl) (.tmp 42) (.tmp 45) 29 (by kernel_rfl) (by kernel_rfl) (by kernel_rfl) (by decide) (by kernel_rfl) (by kernel_rfl) rfl rfl (by((try simp only[maxLen,length_append,length_cons,length_nil,length_singleton])<;>omega)) λf2 y1 h9 Hn g5=>?_;have b7:=k1.put 5 (by simp) g5 Hn;refine Ar (Ab SE) b7 [(2,0)] λx3 a7=>?_;refine AX [(2,Z (U w)),(4,Z (U w+1)),(5,Z (U w8)),(16,φ k0 ((Bb a ds p1).length) c0),(17,J (((Bb a ds p1).length:Int))),(18,J (IntKind.i64.wrap ((i0:Int)+1)))] λf8=>?_;have v6:Wk w x3 [N (U w) [Y a,V (some ⟨x0,z0,none⟩) ds.length j0] 27,N (U w+1) [V none 0 0,V none 0 0,V none 0 0,V none 0 0,.map none,.map none,.map none,.map none] 87,N (U w8) [V f2 ((s++[(κ ds e0).name]).length) y1,V p b.length o,V y q.length x,V none 0 0,.map (some (U w1)),.map (some (U w3)),.map (some (U w5)),.map (some (U w7))] 87] [(Ag.th BW (U w1) (Ck h0 ((κ ds e0).name) (s.length:Int))),(Ag.th BW (U w3) g0),(Ag.th BW (U w5) d0),(Ag.th BW (U w7) ([])),(Bc (θ k0) c0 (Bb a ds p1)),(Bo f2 y1 (s++[(κ ds e0).name])),(El p o b),(Dv b),(Bo y x q)] []:=a7.pk [0,1,2] [0,1,2,3,4,5,6,7,8];rw[Bs i0 (by omega)];refine p0 _ _ ⟨i0+1,(s++[(κ ds e0).name]),b,q,(Ck h0 ((κ ds e0).name) (s.length:Int)),g0,d0,f2,y1,p,o,y,x,f8,t0,rfl,by rw[r0,e1]<;>first | rfl | (simp only[cond_true,cond_false,length_map,map_append,map_cons,map_nil,id];done) | (simp only[cond_true,cond_false,length_map,map_append,map_cons,map_nil,id];rfl),by((try simp only[maxLen,length_append,length_cons,length_nil,length_singleton])<;>omega),by((try simp only[maxLen,length_append,length_cons,length_nil,length_singleton])<;>omega),by((try simp only[maxLen,length_append,length_cons,length_nil,length_singleton])<;>omega),by(first | ((try simp only[maxLen,length_append,length_cons,length_nil,length_singleton])<;>omega) | (refine Nat.le_trans (W9 _ _ _) ?_;((try simp only[maxLen,length_append,length_cons,length_nil,length_singleton])<;>omega))),by(first | ((try simp only[maxLen,length_append,length_cons,length_nil,length_singleton])<;>omega) | (refine Nat.le_trans (W9 _ _ _) ?_;((try simp only[maxLen,length_append,length_cons,length_nil,length_singleton])<;>omega))),by(first | ((try simp only[maxLen,length_append,length_cons,length_nil,length_singleton])<;>omega) | (refine Nat.le_trans (W9 _ _ _) ?_;((try simp only[maxLen,length_append,length_cons,length_nil,length_singleton])<;>omega))),v6⟩ ?_;show(Bb a ds p1).length-AP (J ((i0+1:Nat):Int))<(Bb a ds p1).length-AP (J (i0:Int));simp only[AP];omega
  refine AC d3 n3 [] λg9 l3=>?_;refine AH ((κ ds e0).kind==2) (λo1=>?_) (λo1=>?_)
  ·refine AC tq l3 [(2,5),(3,1),(2,1)] λv3 k3=>?_;have Kf:=(k3.pickL (L':=[(Ag.th BW (U w3) g0)]++[(Ag.th BW (U w1) h0),(Ag.th BW (U w5) d0),(Ag.th BW (U w7) ([])),(Bc (θ k0) c0 (Bb a ds p1)),(Bo b0 a0 s),(El p o b),(Dv b),(Bo y x q)]) [1,0,2,3,4,5,6,7,8] rfl (by decide)).front;refine BL (JA _ (U w3) g0 ((κ ds e0).name) (b.length:Int) w v3 (ht _ (DR (GV _ (mem_of_getElem? v0)))).2 (by constructor<;>omega) (by((try simp only[maxLen,length_append,length_cons,length_nil,length_singleton])<;>omega)) k3.B Kf) λen f9 hh=>?_;obtain⟨rfl,f5,Hn⟩:=hh;refine⟨_,rfl,?_⟩;have u6:=Wk.unfront f5 Hn;refine Al 12 tp u6 [] λb1 i1=>?_;refine DK IC 11 ?_;refine C5 (i:=0) (v:=Z (U w8)) (IC.getD 0 default) (λ_ _ _ h=>nomatch h.1) ?_;refine C5 (i:=1) (v:=.pointer (some ⟨U w8,1,none⟩)) (IC.getD 1 default) (λ_ _ _ h=>nomatch h.1) ?_;refine C5 (i:=3) (v:=.pointer (some ⟨U m1,7,none⟩)) (IC.getD 3 default) (λ_ _ _ h=>nomatch h.1) ?_;refine Cm (md:=.any) (fuel:=4) (L:=[Av 2 [] (V p b.length o),Av 4 [] (V m0 ((κ ds e0).ents.length) l0),⟨5,[4],[5],λvs u=>∃(m:Option Addr) (j:Nat),vs=[V m (((id (κ ds e0).ents)).length) j]/\AY (U b1) u [Ib m j ((id (κ ds e0).ents))]⟩,⟨6,[4,5],[5,6],λvs u=>∃(m:Option Addr) (j w0:Nat),vs=[V m (((id (κ ds e0).ents)).length) j,φ w0 1 1]/\AY (U b1) u [Th.ent (N w0 [V m (((id (κ ds e0).ents)).length) j] 67),Ib m j ((id (κ ds e0).ents))]⟩]) (W:=yC) (C:=λu=>Below (U b1) b1 u) (Ext:=Cy) (Below.refl _ _).drew Cy.refl (λ_ _ _=>Cy.trans) ⟨?_,?_,?_,?_,trivial⟩ rfl ?_
   ·refine⟨λ_ _ _ _ _ h=>h,λvals u hu hb=>?_⟩;exact AL.knownE [] trivial (AL.reads ⟨0,_,(2,1),[]⟩ (BG i1.G hu) (V p b.length o) ⟨hu,.refl _,rfl⟩)
   ·refine⟨λ_ _ _ _ _ h=>h,λvals u hu hb=>?_⟩;exact AL.knownE [] trivial (AL.reads ⟨0,_,(3,7),[]⟩ (BG i1.G hu) (V m0 ((κ ds e0).ents.length) l0) ⟨hu,.refl _,rfl⟩)
   ·refine⟨λvs u u2 _ he ⟨m,j,h1,h2⟩=>⟨m,j,h1,h2.below he⟩,λvals u hu hb=>?_⟩;obtain⟨h4,_⟩:=hb;refine AL.knownE [(64,4,V m0 ((κ ds e0).ents.length) l0)] ⟨(List.cons.inj h4).1,trivial⟩ (AL.call (f:=56) [.tmp 64] (ats:=#[67]) rfl (Cf _ _) ((oM m0 (κ ds e0).ents l0 u (s1.below (i1.B.trans (hu.mono i1.B.size))) (c4 _ (DR (GV _ (mem_of_getElem? v0))))).mono λen u2 hh=>?_));obtain⟨m,j,rfl,bb,Hn⟩:=hh;exact⟨_,rfl,hu.trans (bb.mono hu.size),bb,m,j,rfl,Hn.mono hu.size⟩
   ·refine⟨λvs u u2 _ he ⟨m,j,w0,h1,h2⟩=>⟨m,j,w0,h1,h2.below he⟩,λvals u hu hb=>?_⟩;obtain⟨h4,h5,_⟩:=hb;obtain⟨m,j,a3,z4⟩:=h5;refine AL.knownE [(65,5,V m (((id (κ ds e0).ents)).length) j)] ⟨(List.cons.inj a3).1,trivial⟩ (AL.runsK ⟨U u,[],(0,0),[]⟩ ⟨U u+1,[N (U u) [V m (((id (κ ds e0).ents)).length) j] 67],(0,0),[]⟩ (.value (V (some ⟨U u,0,none⟩) 1 1)) (V (some ⟨U u,0,none⟩) 1 1) (.inl rfl) (CQ u) rfl λu2 hL hK=>?_);have Bq:Below (U u) u u2:=hK.below (Nat.le_refl _) (λk hk=>by cases hk);have Hq:=AY.run (M:=[]) (M':=[N (U u) [V m (((id (κ ds e0).ents)).length) j] 67]) (L:=[Ib m j ((id (κ ds e0).ents))]) z4 hL hK rfl;exact⟨hu.trans (Bq.mono hu.size),Bq,m,j,U u,by show[vals 5,_]=_;rw[(List.cons.inj a3).1];rfl,Hq⟩
   intro vals k2 a2 _ e3;replace a2:Below (U b1) b1 k2:=a2;obtain⟨x2,x4,x5,x6,_⟩:=e3;obtain⟨m,j,w0,a4,Hn⟩:=x6;replace Hn:AY (U b1) k2 [Th.ent (N w0 [V m (((id (κ ds e0).ents)).length) j] 67),(Ib m j ((id (κ ds e0).ents)))]:=Hn;have g1:=i1.joinE a2 Hn;have e6:vals 6=φ w0 1 1:=(List.cons.inj (List.cons.inj a4).2).1;refine Bk [(2,Z (U w)),(4,Z (U w+1)),(5,Z (U w8)),(16,φ k0 ((Bb a ds p1).length) c0),(17,J (((Bb a ds p1).length:Int))),(18,J ((i0:Int))),(62,vals 2),(66,vals 6)] λc8=>?_;rw[show vals 2=V p b.length o from(List.cons.inj x2).1];rw[e6];obtain⟨e2,x1,c9,z2,Hn,e5⟩:=Mh (E:=BN c8 [(2,Z (U w)),(4,Z (U w+1)),(5,Z (U w8)),(16,φ k0 ((Bb a ds p1).length) c0),(17,J (((Bb a ds p1).length:Int))),(18,J ((i0:Int))),(62,V p b.length o),(66,φ w0 1 1)]) (k:=92) g1.H (g1.ix 6) (g1.at 6 rfl) (((id (κ ds e0).ents),m,j)) [V m (((id (κ ds e0).ents)).length) j] rfl (w0) (g1.ent 4 (by kernel_rfl)) (IC.getD 7 default) (.tmp 62) (.tmp 66) 30 (by kernel_rfl) (by kernel_rfl) (by kernel_rfl) (by decide) (by kernel_rfl) (by kernel_rfl) rfl rfl (by((try simp only[maxLen,length_append,length_cons,length_nil,length_singleton])<;>omega));refine I4 (i:=7) (IC.getD 7 default) z2 ?_;have t6:=g1.put 6 (by simp) e5 Hn;have q6:=t6.take 7 9 O8 b (b++[((id (κ ds e0).ents),m,j)]) (((id (κ ds e0).ents),m,j)) rfl rfl (by decide) (by intro z;simp[or_comm]);refine Dy (i:=8) q6 (IC.getD 8 default) (0,0) (Z (U w8)) λb9 m6=>?_;refine Dy (i:=9) m6 (IC.getD 9 default) (0,0) (.pointer (some ⟨U w8,1,none⟩)) λa9 k6=>?_;refine Dy (i:=10) k6 (IC.getD 10 default) (2,1) (undef) λx8 h6=>?_;refine Dm ⟨rfl,At.mid ?_⟩;refine AC (Ab SE) h6 [] λu3 g6=>?_;refine AX [(2,Z (U w)),(4,Z (U w+1)),(5,Z (U w8)),(16,φ k0 ((Bb a ds p1).length) c0),(17,J (((Bb a ds p1).length:Int))),(18,J (IntKind.i64.wrap ((i0:Int)+1)))] λa8=>?_;have f6:Wk w u3 [N (U w) [Y a,V (some ⟨x0,z0,none⟩) ds.length j0] 27,N (U w+1) [V none 0 0,V none 0 0,V none 0 0,V none 0 0,.map none,.map none,.map none,.map none] 87,N (U w8) [V b0 s.length a0,V e2 ((b++[((id (κ ds e0).ents),m,j)]).length) x1,V y q.length x,V none 0 0,.map (some (U w1)),.map (some (U w3)),.map (some (U w5)),.map (some (U w7))] 87] [(Ag.th BW (U w1) h0),(Ag.th BW (U w3) (Ck g0 ((κ ds e0).name) (b.length:Int))),(Ag.th BW (U w5) d0),(Ag.th BW (U w7) ([])),(Bc (θ k0) c0 (Bb a ds p1)),(Bo b0 a0 s),(El e2 x1 (b++[((id (κ ds e0).ents),m,j)])),(Dv (b++[((id (κ ds e0).ents),m,j)])),(Bo y x q)] []:=g6.pk [0,1,2] [1,0,2,3,4,5,6,7,8];rw[Bs i0 (by omega)];refine p0 _ _ ⟨i0+1,s,(b++[((id (κ ds e0).ents),m,j)]),q,h0,(Ck g0 ((κ ds e0).name) (b.length:Int)),d0,b0,a0,e2,x1,y,x,a8,t0,rfl,by rw[r0,e1,o1]<;>first | rfl | (simp only[cond_true,cond_false,length_map,map_append,map_cons,map_nil,id];done) | (simp only[cond_true,cond_false,length_map,map_append,map_cons,map_nil,id];rfl),by((try simp only[maxLen,length_append,length_cons,length_nil,length_singleton])<;>omega),by((try simp only[maxLen,length_append,length_cons,length_nil,length_singleton])<;>omega),by((try simp only[maxLen,length_append,length_cons,length_nil,length_singleton])<;>omega),by(first | ((try simp only[maxLen,length_append,length_cons,length_nil,length_singleton])<;>omega) | (refine Nat.le_trans (W9 _ _ _) ?_;((try simp only[maxLen,length_append,length_cons,length_nil,length_singleton])<;>omega))),by(first | ((try simp only[maxLen,length_append,length_cons,length_nil,length_singleton])<;>omega) | (refine Nat.le_trans (W9 _ _ _) ?_;((try simp only[maxLen,length_append,length_cons,length_nil,length_singleton])<;>omega))),by(first | ((try simp only[maxLen,length_append,length_cons,length_nil,length_singleton])<;>omega) | (refine Nat.le_trans (W9 _ _ _) ?_;((try simp only[maxLen,length_append,length_cons,length_nil,length_singleton])<;>omega))),f6⟩ ?_;show(Bb a ds p1).length-AP (J ((i0+1:Nat):Int))<(Bb a ds p1).length-AP (J (i0:Int));simp only[AP];omega
  refine AC tn l3 [] λv8 i3=>?_;refine AH ((κ ds e0).kind==5) (λv1=>?_) (λv1=>?_)
  ·refine AC dz i3 [(2,6),(3,1),(2,2)] λt3 h3=>?_;have Kf:=(h3.pickL (L':=[(Ag.th BW (U w5) d0)]++[(Ag.th BW (U w1) h0),(Ag.th BW (U w3) g0),(Ag.th BW (U w7) ([])),(Bc (θ k0) c0 (Bb a ds p1)),(Bo b0 a0 s),(El p o b),(Dv b),(Bo y x q)]) [2,0,1,3,4,5,6,7,8] rfl (by decide)).front;refine BL (JA _ (U w5) d0 ((κ ds e0).name) (q.length:Int) w t3 (ht _ (DR (GV _ (mem_of_getElem? v0)))).2 (by constructor<;>omega) (by((try simp only[maxLen,length_append,length_cons,length_nil,length_singleton])<;>omega)) h3.B Kf) λen i2 hh=>?_;obtain⟨rfl,c5,Hn⟩:=hh;refine⟨_,rfl,?_⟩;have c6:=Wk.unfront c5 Hn;refine Bn BH tk [N (U w) [Y a,V (some ⟨x0,z0,none⟩) ds.length j0] 27,N (U w+1) [V none 0 0,V none 0 0,V none 0 0,V none 0 0,.map none,.map none,.map none,.map none] 87,N (U w8) [V b0 s.length a0,V p b.length o,V y q.length x,V none 0 0,.map (some (U w1)),.map (some (U w3)),.map (some (U w5)),.map (some (U w7))] 87,N (U m1) ((CL (κ ds e0) m0 l0 d1 c1)) 72,N (U i2) [Y ((κ ds e0).name)] 9] c6 [(2,2),(3,1)] λu8 f1=>?_;refine CD f1.H (f1.ix 8) (f1.at 8 rfl) ((κ ds e0).name) [Y ((κ ds e0).name)] rfl (U i2) (f1.ent 4 (by kernel_rfl)) (Cr tk) (by kernel_rfl) (.tmp 83) (.tmp 86) 29 (by kernel_rfl) (by kernel_rfl) (by kernel_rfl) (by decide) (by kernel_rfl) (by kernel_rfl) rfl rfl (by((try simp only[maxLen,length_append,length_cons,length_nil,length_singleton])<;>omega)) λd2 t1 q8 Hn b5=>?_;have a6:=f1.put 8 (by simp) b5 Hn;refine Ar (Ab SE) a6 [(2,2)] λr3 z5=>?_;refine AX [(2,Z (U w)),(4,Z (U w+1)),(5,Z (U w8)),(16,φ k0 ((Bb a ds p1).length) c0),(17,J (((Bb a ds p1).length:Int))),(18,J (IntKind.i64.wrap ((i0:Int)+1)))] λz7=>?_;have v5:Wk w r3 [N (U w) [Y a,V (some ⟨x0,z0,none⟩) ds.length j0] 27,N (U w+1) [V none 0 0,V none 0 0,V none 0 0,V none 0 0,.map none,.map none,.map none,.map none] 87,N (U w8) [V b0 s.length a0,V p b.length o,V d2 ((q++[(κ ds e0).name]).length) t1,V none 0 0,.map (some (U w1)),.map (some (U w3)),.map (some (U w5)),.map (some (U w7))] 87] [(Ag.th BW (U w1) h0),(Ag.th BW (U w3) g0),(Ag.th BW (U w5) (Ck d0 ((κ ds e0).name) (q.length:Int))),(Ag.th BW (U w7) ([])),(Bc (θ k0) c0 (Bb a ds p1)),(Bo b0 a0 s),(El p o b),(Dv b),(Bo d2 t1 (q++[(κ ds e0).name]))] []:=z5.pk [0,1,2] [1,2,0,3,4,5,6,7,8];rw[Bs i0 (by omega)];refine p0 _ _ ⟨i0+1,s,b,(q++[(κ ds e0).name]),h0,g0,(Ck d0 ((κ ds e0).name) (q.length:Int)),b0,a0,p,o,d2,t1,z7,t0,rfl,by rw[r0,e1,o1,v1]<;>first | rfl | (simp only[cond_true,cond_false,length_map,map_append,map_cons,map_nil,id];done) | (simp only[cond_true,cond_false,length_map,map_append,map_cons,map_nil,id];rfl),by((try simp only[maxLen,length_append,length_cons,length_nil,length_singleton])<;>omega),by((try simp only[maxLen,length_append,length_cons,length_nil,length_singleton])<;>omega),by((try simp only[maxLen,length_append,length_cons,length_nil,length_singleton])<;>omega),by(first | ((try simp only[maxLen,length_append,length_cons,length_nil,length_singleton])<;>omega) | (refine Nat.le_trans (W9 _ _ _) ?_;((try simp only[maxLen,length_append,length_cons,length_nil,length_singleton])<;>omega))),by(first | ((try simp only[maxLen,length_append,length_cons,length_nil,length_singleton])<;>omega) | (refine Nat.le_trans (W9 _ _ _) ?_;((try simp only[maxLen,length_append,length_cons,length_nil,length_singleton])<;>omega))),by(first | ((try simp only[maxLen,length_append,length_cons,length_nil,length_singleton])<;>omega) | (refine Nat.le_trans (W9 _ _ _) ?_;((try simp only[maxLen,length_append,length_cons,length_nil,length_singleton])<;>omega))),v5⟩ ?_;show(Bb a ds p1).length-AP (J ((i0+1:Nat):Int))<(Bb a ds p1).length-AP (J (i0:Int));simp only[AP];omega
  refine AC (Ab SE) i3 [] λq3 u5=>?_;refine AX [(2,Z (U w)),(4,Z (U w+1)),(5,Z (U w8)),(16,φ k0 ((Bb a ds p1).length) c0),(17,J (((Bb a ds p1).length:Int))),(18,J (IntKind.i64.wrap ((i0:Int)+1)))] λx7=>?_;have t5:Wk w q3 [N (U w) [Y a,V (some ⟨x0,z0,none⟩) ds.length j0] 27,N (U w+1) [V none 0 0,V none 0 0,V none 0 0,V none 0 0,.map none,.map none,.map none,.map none] 87,N (U w8) [V b0 s.length a0,V p b.length o,V y q.length x,V none 0 0,.map (some (U w1)),.map (some (U w3)),.map (some (U w5)),.map (some (U w7))] 87] [(Ag.th BW (U w1) h0),(Ag.th BW (U w3) g0),(Ag.th BW (U w5) d0),(Ag.th BW (U w7) ([])),(Bc (θ k0) c0 (Bb a ds p1)),(Bo b0 a0 s),(El p o b),(Dv b),(Bo y x q)] []:=u5.pk [0,1,2] [0,1,2,3,4,5,6,7,8];rw[Bs i0 (by omega)];refine p0 _ _ ⟨i0+1,s,b,q,h0,g0,d0,b0,a0,p,o,y,x,x7,t0,rfl,by rw[r0,e1,o1,v1]<;>first | rfl | (simp only[cond_true,cond_false,length_map,map_append,map_cons,map_nil,id];done) | (simp only[cond_true,cond_false,length_map,map_append,map_cons,map_nil,id];rfl),by((try simp only[maxLen,length_append,length_cons,length_nil,length_singleton])<;>omega),by((try simp only[maxLen,length_append,length_cons,length_nil,length_singleton])<;>omega),by((try simp only[maxLen,length_append,length_cons,length_nil,length_singleton])<;>omega),by(first | ((try simp only[maxLen,length_append,length_cons,length_nil,length_singleton])<;>omega) | (refine Nat.le_trans (W9 _ _ _) ?_;((try simp only[maxLen,length_append,length_cons,length_nil,length_singleton])<;>omega))),by(first | ((try simp only[maxLen,length_append,length_cons,length_nil,length_singleton])<;>omega) | (refine Nat.le_trans (W9 _ _ _) ?_;((try simp only[maxLen,length_append,length_cons,length_nil,length_singleton])<;>omega))),by(first | ((try simp only[maxLen,length_append,length_cons,length_nil,length_singleton])<;>omega) | (refine Nat.le_trans (W9 _ _ _) ?_;((try simp only[maxLen,length_append,length_cons,length_nil,length_singleton])<;>omega))),t5⟩ ?_;show(Bb a ds p1).length-AP (J ((i0+1:Nat):Int))<(Bb a ds p1).length-AP (J (i0:Int));simp only[AP];omega
 have c3:i0=(Bb a ds p1).length:=by have:=of_decide_eq_false z1;omega
 rw[c3,drop_length,Ov]at r0;refine Ar AEz l1 [(2,0),(1,0)] λk8 c2=>?_;have hS:(AA a ds p1)=(s,(b.map Prod.fst),q,h0,g0,d0,[]):=by rw[r0]<;>rfl
 exact AN c2 (1,0) (D [V b0 s.length a0,V p b.length o,V y q.length x,V none 0 0,.map (some (U w1)),.map (some (U w3)),.map (some (U w5)),.map (some (U w7))]) ⟨b0,a0,p,o,b,y,x,U w1,U w3,U w5,U w7,by rw[hS]<;>rfl,by rw[hS]<;>first | assumption | (simp;done) | (simp;assumption),c2.B,by rw[hS];exact c2.own0 [5,6,7,8,0,1,2,3] rfl (by decide)⟩
end
end Go.Proofs.YtkpemkkbjfbmaaaGreat
namespace Go.Proofs.YtkpemkkbjfbmaaaGreat
open List
noncomputable section
open Go.RowKit
set_option maxRecDepth 100000
set_option maxHeartbeats 1000000
theorem Lx {n q:Nat} {v:Value} (b:q<n):∀ {rs:List (List Value)} {j:Nat} {r:List Value},(∀r∈rs,r.length=n)->rs[j]?=some r->(rs.set j (r.set q v)).flatten=rs.flatten.set (j*n+q) v
 | [],j,r,_,h=>by simp at h
 | r0::rs,0,r,hn,h=>by simp at h;subst h;have:=hn r0 (by simp);rw[set_cons_zero,flatten_cons,flatten_cons,Nat.zero_mul,Nat.zero_add,set_append,if_pos (by omega)]
 | r0::rs,j+1,r,hn,h=>by have a:=hn r0 (by simp);have:=Lx b (λr hr=>hn r (by simp[hr])) (show rs[j]?=some r by simpa using h) (v:=v);rw[set_cons_succ,flatten_cons,flatten_cons,this,set_append,if_neg (by rw[a,Nat.succ_mul];omega),a,show(j+1)*n+q-n=j*n+q by rw[Nat.succ_mul];omega]
def Xx (n:Nat) (E:Nat->Value) (todo:List Item):Option (TypeId×Value×Value×Option Tmp):=match GP n E todo with
 | some o=>match o.op with
  | .store t x y=>some (t,BK n E x,BK n E y,o.dst)
  | _=>none
 | none=>none
section
variable {P:Program} {fi:FuncId} {R:Ending->World->Prop}
theorem GT {α:Type} {T:TypeId} {n:Nat} {f:α->List Value->Prop} {b g c:Nat} {l:List α} {L:List Th} {w:World} {k:Nat} {td:List Item} {E:Nat->Value} (H:AY b w L) (i:Nat) (hi:L[i]?=some (Th.row T n f (θ g) c l))
  (j:Nat) (e e':α) (he:l[j]?=some e) (q:Nat) (hq:q<n) (v:Value) (g0:∀r,f e r->f e' (r.set q v)) (hn:∀e r,f e r->r.length=n) (t:TypeId) (dst:Option Tmp)
  (hc:Xx k E td=some (t,.pointer (some ⟨g,0+j*n+q,none⟩),v,dst)) (j0:Le P t=some 1) (hv:v.cells.toList=[v]) (h1:v.oneCell'=true)
  (hk:∀w',AY b w' (L.set i (Th.row T n f (θ g) c (l.set j e')))->Below b w w'->w'.heap.size=(U w)->At P fi R (AD td) (Fr k (A8 E dst undef)) w'):At P fi R td (Fr k E) w:=by
 obtain⟨rs,z,hP⟩:(Th.row T n f (θ g) c l).P w:=H.all i _ hi;rcases hP.2 with⟨h0,_⟩ | ⟨g',cap,d,hA,_,hg,i0,r0,d0,ht⟩
 ·cases h0
 obtain⟨rfl,rfl⟩:g=g'/\c=cap:=by
  injection hA with e1 e2 e3
  injection e1 with e1
  injection e1 with e1
  exact⟨e1,e3⟩
 have o:=Jp hn z;have t0:rs.length=l.length:=GW z;obtain⟨r,hr,k0⟩:=MB z he;have p0:j<l.length:=(List.getElem?_eq_some_iff.1 he).1;have v0:j*n+q<l.length*n:=by have:(j+1)*n<=l.length*n:=Nat.mul_le_mul_right n p0;rw[Nat.succ_mul]at this;omega
 have w0:l.length*n<=c*n:=Nat.mul_le_mul_right n i0;have a0:(0+j*n+q)+0+[v].length<=d.size:=by rw[d0];simp;omega
 have s:=run_storeCells_at P g (0+j*n+q) T [v] 0 d w hg a0 (λu hu=>by rw[mem_singleton.1 hu];exact h1);have b0:(d.toList.take ((0+j*n+q)+0)++[v]++d.toList.drop ((0+j*n+q)+0+[v].length))=d.toList.set (j*n+q) v:=by rw[set_eq_take_append_cons_drop,if_pos (by rw[Array.length_toList,d0];omega)];simp
 rw[b0]at s;have c0:∀m,m<(U w)->m≠g->(w.setRow g (d.toList.set (j*n+q) v).toArray).heap[m]?=w.heap[m]?:=λm _ l0=>setRow_other w g m _ l0;have a:(w.setRow g (d.toList.set (j*n+q) v).toArray).heap.size=(U w):=by unfold World.setRow;simp
 have m0:=H.lo i _ hi g rfl;have H':AY b (w.setRow g (d.toList.set (j*n+q) v).toArray) (L.set i (Th.row T n f (θ g) c (l.set j e'))):=by
  refine H.set i hi (by rw[a];exact Nat.le_refl _) (show(Th.row T n f (θ g) c (l.set j e')).P _ from⟨rs.set j (r.set q v),Pb (g0 r k0) j z,?_,.inr ⟨g,c,_,by rw[length_set],Nat.zero_le _,setRow_heap w g d _ T _ hg,by rw[length_set];exact i0,r0,by simp[d0],?_⟩⟩) (λm h=>⟨?_,.inl h⟩) (λm h hf=>c0 m h λe=>hf (by rw[e];rfl))
  ·have q0:=hP.1;rw[Lx hq o hr,length_set,length_set];exact q0
  ·rw[length_set,Lx hq o hr,<-ht,toList_toArray,take_set]
  obtain rfl:g=m:=by have:=Option.some.inj h;injection this
  rw[a];exact m0.2
 have hB:Below b w (w.setRow g (d.toList.set (j*n+q) v).toArray):=⟨rfl,rfl,rfl,by rw[a];exact Nat.le_refl _,λm h=>c0 m (Nat.lt_of_lt_of_le h H.base) (λe=>by omega)⟩;have p:=hk _ H' hB a;unfold Xx at hc
 split at hc
 ·rename_i op hcur'
  split at hc
  ·rename_i t' x y ho
   simp only[Option.some.injEq,Prod.mk.injEq]at hc;obtain⟨rfl,hx,hy,rfl⟩:=hc;refine TV op hcur' ?_ p;have e0:v.cells.size=1:=by rw[<-Array.length_toList,hv];rfl
   clear H' hB hk p c0 a b0 a0;generalize 0+j*n+q=o9 at s hx;generalize w.setRow g (d.toList.set (j*n+q) v).toArray=w9 at s ⊢;unfold execOp;simp only[ho,hx,hy];simp[Instr.storeAt,Instr.sureAddr,storeVar,In j0,hv,e0,s]
  cases hc
 cases hc
end
section
variable {P:Program} {ops:Array Oper} {Q:Exit->Act->World->Prop} {md:Region.Mode} {n:Nat} {E:Nat->Value}
theorem Hx {a:Array Bool} {fuel i:Nat} {w:World} (o:Oper) (g:FuncId) (xs:List Operand) (args:List Value) {ats:Array TypeId} (h:Calls P g args.toArray w λe w'=>∃v,e=.returned v/\wpAny P md ops Q fuel (a.setIfInBounds i true) (Fr n (A8 E o.dst v)) w') (hr:Region.ready md ops a=[i]:=by kernel_rfl) (ho:ops[i]?=some o:=by kernel_rfl) (hgd:o.guard=none:=by kernel_rfl) (hop:o.op=.call ⟨.value (.func g),xs.toArray,ats⟩:=by kernel_rfl) (ha:xs.map (BK n E)=args:=by kernel_rfl) (hg:Dr P g=true:=by kernel_rfl):wpAny P md ops Q (fuel+1) a (Fr n E) w:=by
 refine Km hr ho hgd ?_;unfold Oper.wp;rw[D8];have e:(execOp (BK n E) o).run P w=.ok (.enter g args.toArray) w:=by rw[<-Cf (h:=hg) args.toArray w,<-ha];obtain⟨d,op,ty,pos,k,f⟩:=o;simp only at hop;subst hop;unfold execOp resolve;simp only[map_toArray];show((Deferred.ofValue (.func (.func g) #[] #[]) (xs.map (BK n E)).toArray).bind λd=>invoke d.target d.args).run P w=_;unfold Deferred.ofValue;simp[invoke,pure,Sem.bind]
 rw[e];refine h.mono λj w' c=>?_;obtain⟨v,rfl,b⟩:=c;show wpAny P md ops Q fuel _ ((Fr n E).put o.dst v) w';rw[Eo];exact b
end
abbrev AM:=Int×Int×Int×Int×Int×Int
abbrev FR (x:AM):List Value:=[J x.1,J x.2.1,J x.2.2.1,J x.2.2.2.1,J x.2.2.2.2.1,J x.2.2.2.2.2]
abbrev Cw (A:Option Addr) (c:Nat) (l:List AM):Th:=Th.row 130 6 (λe r=>r=FR e) A c l
instance:Inhabited AM:=⟨(0,0,0,0,0,0)⟩
def BA (l:List AM) (i:Nat) (v:Int):List AM:=l.set i ((l.getD i default).1,v,(l.getD i default).2.2)
theorem D0 (l:List AM) (i:Nat) (v:Int):(BA l i v).length=l.length:=by unfold BA;rw[length_set]
theorem Ag.below {α β:Type} [DecidableEq α] {S:Ag α β} {b:Nat} {m:List (α×β)} {w w':World} (h:S.at b m w) (B:Below (U w) w w'):S.at b m w':=S.at_fr h λhl=>B.block b hl
theorem LT {x:Ex} (h:EB x):x.nm.length<=4294967296:=by
 cases x with
 | mk=>exact h.1
def Ie:Op->Bool
 | .store _ _ _=>true
 | _=>false
theorem az {α:Type} {P:Program} {T:TypeId} {n:Nat} {e:α->List Value->Prop} {b:Nat} {A:Option Addr} {c:Nat} {l:List α} {L:List Th} {w:World} {ρ:Operand->Value} (H:AY b w L) (i:Nat) (hi:L[i]?=some (Th.row T n e A c l)) (es:List α) (rows:List (List Value)) (p:Dh e es rows) (ad:Addr) (cx:Nat)
  (a0:∀j u,rows.flatten[j]?=some u->w.cell? (ad.add j)=some u) (o:Oper) (s x:Operand) (t:TypeId) (ho:o.op=.call { callee:=.builtin .append,args:=#[s,x],argTypes:=#[t,t] })
  (ht:P.underlying t=some (.slice T)) (a:(P.info? T).map (λi=>(i.zero.map (·.cells.size),i.size,Nat.ble i.bytes 1024))=some (some n,n,true)) (g0:0<n)
  (hs:ρ s=.slice A l.length c) (hx:ρ x=.slice (some ad) es.length cx) (hn:∀r∈rows,r.length=n) (h1:∀r∈rows,r.all (·.oneCell')=true) (d0:l.length+es.length<=100000000000) :
  ∃g k w',(execOp ρ o).run P w=.ok (.value (.slice g (l++es).length k)) w'/\AY b w' (L.set i (Th.row T n e g k (l++es)))/\Below b w w':=by
 obtain⟨rs,i0,hP⟩:(Th.row T n e A c l).P w:=H.all i _ hi;obtain⟨d,k0,z,hz,e0,v,m0⟩:∃d,P.info? T=some d/\∃z,d.zero=some z/\z.cells.size=n/\d.size=n/\d.bytes<=1024:=by
  cases hi:P.info? T with
  | none=>rw[hi]at a;cases a
  | some d=>
   rw[hi]at a;simp only[Option.map_some,Option.some.injEq,Prod.mk.injEq,Option.map_eq_some_iff]at a;obtain⟨⟨z,h1,h2⟩,f,h4⟩:=a;exact⟨d,rfl,z,h1,h2,f,Nat.le_of_ble_eq_true h4⟩
 have p0:l.length+es.length<=maxLen:=by unfold maxLen;omega
 have m:(l.length+es.length)*d.bytes<=140737488355328:=Nat.le_trans (Nat.mul_le_mul d0 m0) (by decide);have l0:∀q:List (List Value),(∀r∈q,r.length=n)->q.flatten.length=q.length*n:=λq=>by
  induction q with
  | nil=>intro _;simp
  | cons r q ih=>intro h;rw[flatten_cons,length_append,ih (λr hr=>h r (by simp[hr])),h r (by simp),length_cons,Nat.succ_mul];omega
 obtain⟨v',w',hr,h2,f,_,h5⟩:=run_append_own_at (P:=P) (w:=w) 0 t o.type T d z n d.bytes ht k0 hz v rfl e0 g0 _ _ _ hP ad es.length cx rows.flatten (by rw[l0 rows hn,GW p]) a0 (λu hu=>by obtain⟨r,hr,hu⟩:=mem_flatten.1 hu;exact all_eq_true.1 (h1 r hr) u hu) p0 m (Nat.zero_le _);have hv:∃g k,v'=.slice g (l.length+es.length) k:=by
  rcases h2.2 with⟨f,h0⟩ | ⟨g',cap,q0,rfl,_⟩
  ·exact⟨none,0,by rw[f,h0]⟩
  exact⟨_,cap,rfl⟩
 obtain⟨g,k,rfl⟩:=hv;have c0:(Th.row T n e g k (l++es)).P w':=⟨rs++rows,Pc i0 p,by rw[length_append,flatten_append];exact h2⟩
 have hF:∀q,(Th.row T n e g k (l++es)).F q->q<w'.heap.size/\((Th.row T n e A c l).F q\/w.heap.size<=q):=λq hq=>by
  have y:(Value.slice g (l.length+es.length) k).ownBlock=some q:=by rw[show g=some ⟨q,0,none⟩from hq];rfl
  refine⟨(KP h2 y).2,?_⟩;rcases h5 with h5 | h5
  ·exact .inl (DC hP (h5.symm.trans y)).1
  right;have:q=w.heap.size:=Option.some.inj (y.symm.trans h5);omega
 have b0:∀q,q<w.heap.size->¬(Th.row T n e A c l).F q->w'.heap[q]?=w.heap[q]?:=λq hq j0=>f.block q hq λhe=>j0 (DC hP he.symm).1;have H':AY b w' (L.set i (Th.row T n e g k (l++es))):=H.set i hi f.size c0 hF b0;have hB:Below b w w':=⟨f.os,f.tape,f.output,f.size,λq hq=>f.block q (Nat.lt_of_lt_of_le hq H.base) λhe=>by have:=(H.lo i _ hi q (DC hP he.symm).1).1;omega⟩
 refine⟨g,k,w',?_,H',hB⟩;rw[length_append];unfold execOp;simp only[ho,resolve,invoke,builtin,Sem.run_bind,Sem.run_pure,Result.andThen_ok,map_toArray,map_cons,map_nil,hs,hx,hr]
theorem bB {P:Program} {ops:Array Oper} {Q:Exit->Act->World->Prop} {n:Nat} {E:Nat->Value} {a:Array Bool} {fuel:Nat} {w w':World} (i:Nat) {v:Value} (hx:(execOp (BK n E) (ops.getD i default)).run P w=.ok (.value v) w') (b:wpAny P .any ops Q fuel (a.setIfInBounds i true) (Fr n (A8 E (ops.getD i default).dst v)) w')
  (hc:(Region.ready .any ops a,Nat.blt i ops.size,(ops.getD i default).guard)=([i],true,none):=by kernel_rfl):wpAny P .any ops Q (fuel+1) a (Fr n E) w:=by simp only[Prod.mk.injEq]at hc;obtain⟨e,c,d⟩:=hc;rw[Nat.blt_eq]at c;refine Km e (o:=ops.getD i default) (by simp[Array.getD,c]) d ?_;unfold Oper.wp;rw[D8,hx];rw[<-Eo]at b;exact b
theorem AY.merge {b:Nat} {w:World} {L:List Th} {s t m:Th} (h:AY b w (L++[t])) (i:Nat) (hi:L[i]?=some s) (hP:m.P w) (z:∀k,m.F k->s.F k\/t.F k):AY b w (L.set i m):=by
 have y:=(List.getElem?_eq_some_iff.1 hi).1;have a:∀(q:Nat) (u:Th),L[q]?=some u->(L++[t])[q]?=some u:=λq u hu=>by rw[getElem?_append_left (List.getElem?_eq_some_iff.1 hu).1];exact hu
 have c:(L++[t])[L.length]?=some t:=by rw[getElem?_append_right (Nat.le_refl _),Nat.sub_self];rfl
 have hg:∀(q:Nat) (u:Th),(L.set i m)[q]?=some u->(q=i/\u=m)\/(q≠i/\L[q]?=some u):=λq u hu=>by
  rw[getElem?_set]at hu;by_cases j:i=q
  ·rw[if_pos j,if_pos y]at hu;exact .inl ⟨j.symm,(Option.some.inj hu).symm⟩
  rw[if_neg j]at hu;exact .inr ⟨λe=>j e.symm,hu⟩
 refine⟨h.base,λq u hu=>?_,λq u hu k d=>?_,λp q u v hu hv n k d=>?_⟩
 ·rcases hg q u hu with⟨_,rfl⟩ | ⟨_,hu⟩
  ·exact hP
  exact h.all q u (a q u hu)
 ·rcases hg q u hu with⟨_,rfl⟩ | ⟨_,hu⟩
  ·rcases z k d with d | d
   ·exact h.lo i s (a i s hi) k d
   exact h.lo L.length t c k d
  exact h.lo q u (a q u hu) k d
 rcases hg p u hu with⟨x,r⟩ | ⟨x,l⟩
 ·subst r;rcases hg q v hv with⟨j,_⟩ | ⟨j,g⟩
  ·exact absurd (x.trans j.symm) n
  have a0:=(List.getElem?_eq_some_iff.1 g).1;rcases z k d with d | d
  ·exact h.apart i q s v (a i s hi) (a q v g) (λe=>j e.symm) k d
  exact h.apart L.length q t v c (a q v g) (by omega) k d
 have b0:=(List.getElem?_eq_some_iff.1 l).1;rcases hg q v hv with⟨j,o⟩ | ⟨j,g⟩
 ·intro f;rw[o]at f;rcases z k f with f | f
  ·exact h.apart p i u s (a p u l) (a i s hi) x k d f
  exact h.apart p L.length u t (a p u l) c (by omega) k d f
 exact h.apart p q u v (a p u l) (a q v g) n k d
theorem Wk.merge {w0 w:World} {M:List Ax} {L:List Th} {s t m:Th} (K:Wk w0 w M (L++[t]) []) (i:Nat) (hi:L[i]?=some s) (a:m.P w) (b:∀k,m.F k->s.F k\/t.F k):Wk w0 w M (L.set i m) []:=by refine⟨K.B,?_⟩;have h:=K.H;rw[append_nil]at h ⊢;rw[<-append_assoc]at h;have h2:=h.merge (M.length+i) (s:=s) (by rw[getElem?_append_right (by rw[length_map];omega),length_map,Nat.add_sub_cancel_left];exact hi) a b;rwa [set_append,if_neg (by rw[length_map];omega),length_map,Nat.add_sub_cancel_left]at h2
theorem RB {P:Program} {o:Oper} {ρ:Operand->Value} {α:Type} {T:TypeId} {n:Nat} {a:α->List Value->Prop} {b g c:Nat} {l:List α} {L:List Th} {w:World} (H:AY b w L) (i:Nat) (hi:L[i]?=some (Th.row T n a (θ g) c l))
  (j:Nat) (e':α) (cs:List Value) (hj:j<l.length) (m:a e' cs) (hn:∀e r,a e r->r.length=n) {t:TypeId} {x y:Operand} (ho:o.op=.store t x y) (hx:ρ x=.pointer (some ⟨g,0+j*n,none⟩)) (hy:ρ y=D cs) (d0:Le P t=some n) (h1:cs.all (·.oneCell')=true) :
  ∃w',(execOp ρ o).run P w=.ok .skip w'/\AY b w' (L.set i (Th.row T n a (θ g) c (l.set j e')))/\Below b w w':=by
 obtain⟨rs,s,hP⟩:(Th.row T n a (θ g) c l).P w:=H.all i _ hi;rcases hP.2 with⟨h0,_⟩ | ⟨g',cap,k,hA,_,hg,p0,m0,l0,ht⟩
 ·cases h0
 obtain⟨rfl,rfl⟩:g=g'/\c=cap:=by
  injection hA with z e2 e3
  injection z with z
  injection z with z
  exact⟨z,e3⟩
 have f:=Jp hn s;have e0:rs.length=l.length:=GW s;have h:=hn _ _ m;have k0:(j+1)*n<=c*n:=Nat.mul_le_mul_right n (by omega);rw[Nat.succ_mul]at k0;have b0:(0+j*n)+0+cs.length<=k.size:=by rw[l0,h];omega
 have a0:=run_storeCells_at P g (0+j*n) T cs 0 k w hg b0 (λu hu=>all_eq_true.1 h1 u hu);rw[Nat.add_zero,Nat.zero_add]at a0;have j0:=H.lo i _ hi g rfl;have c0:∀nw:List Value,nw.length=c*n->nw.take (l.length*n)=(rs.set j cs).flatten->AY b (w.setRow g nw.toArray) (L.set i (Th.row T n a (θ g) c (l.set j e')))/\Below b w (w.setRow g nw.toArray):=λnw i0 g0=>by
  have d:(w.setRow g nw.toArray).heap.size=(U w):=by unfold World.setRow;simp
  refine⟨H.set i hi (by rw[d];exact Nat.le_refl _) (show(Th.row T n a (θ g) c (l.set j e')).P _ from⟨rs.set j cs,Pb m j s,?_,.inr ⟨g,c,_,by rw[length_set],Nat.zero_le _,setRow_heap w g k _ T _ hg,by rw[length_set];exact p0,m0,by simpa using i0,by rw[length_set];simpa using g0⟩⟩) (λq hq=>⟨?_,.inl hq⟩) (λq _ hf=>setRow_other w g q _ λe=>hf (by rw[e];rfl)),⟨rfl,rfl,rfl,by rw[d];exact Nat.le_refl _,λq hq=>setRow_other w g q _ λe=>by omega⟩⟩
  ·have p:∀r∈rs.set j cs,r.length=n:=λr hr=>by
    rcases mem_or_eq_of_mem_set hr with hr | rfl
    ·exact f r hr
    exact h
   rw[show(l.set j e').length=(rs.set j cs).length by rw[length_set,length_set,e0]];generalize rs.set j cs=q at p
   induction q with
   | nil=>simp
   | cons r q ih=>rw[flatten_cons,length_append,p r (by simp),ih λr hr=>p r (by simp[hr]),length_cons,Nat.succ_mul];omega
  obtain rfl:g=q:=by have:=Option.some.inj hq;injection this
  rw[d];exact j0.2
 have v:∀(rs:List (List Value)) (j:Nat),(∀r∈rs,r.length=n)->j<rs.length->(rs.set j cs).flatten=rs.flatten.take (j*n)++cs++rs.flatten.drop (j*n+n):=by
  intro rs
  induction rs with
  | nil=>intro j _ hj;simp at hj
  | cons r rs ih=>
   intro j hw hj;have hr:=hw r (by simp)
   cases j with
   | zero=>simp[hr]
   | succ j=>
    have:=ih j (λq hq=>hw q (by simp[hq])) (by simpa using hj);rw[set_cons_succ,flatten_cons,this,flatten_cons,show(j+1)*n=n+j*n by rw[Nat.succ_mul,Nat.add_comm]];generalize rs.flatten=Fl;have z:(r++Fl).take (n+j*n)=r++Fl.take (j*n):=by rw[take_append,hr,take_of_length_le (by omega),Nat.add_sub_cancel_left]
    have e2:(r++Fl).drop (n+j*n+n)=Fl.drop (j*n+n):=by rw[drop_append,hr,drop_eq_nil_of_le (by omega),nil_append];congr 1;omega
    rw[z,e2];simp
 obtain⟨h8,h9⟩:=c0 (k.toList.take (j*n)++cs++k.toList.drop (j*n+cs.length)) (by
  simp only[length_append,length_take,length_drop,Array.length_toList];omega) (by
  rw[v rs j f (by omega),<-ht];have q0:j*n+n<=l.length*n:=by have:=Nat.mul_le_mul_right n (show j+1<=l.length from hj);rwa [Nat.succ_mul]at this
  rw[h,take_take,Nat.min_eq_left (by omega),drop_take,take_append,take_of_length_le (by simp;omega)];congr 1;simp only[length_append,length_take,Array.length_toList,h];congr 1;omega)
 refine⟨_,?_,h8,h9⟩;unfold execOp;simp only[ho,hx,hy];have h3:(⟨cs⟩:Array Value).size=n:=h;have h4:(Value.agg ⟨cs⟩).cells=⟨cs⟩:=rfl;simp[Instr.storeAt,Instr.sureAddr,storeVar,In d0,h4,h3,a0]
attribute [local irreducible] BI BQ AD AE AG Au Ab AO A8 Bi Ct BX EE EH DW BO At Fr
theorem Wk.newerT {w0 u w:World} {M:List Ax} {X T:List Th} {b:Nat} {ns:List Int} (K:Wk w0 u M (BV w0 b ns::CI b w::X) T) (f:w0.heap.size=b) (j:Nat) {t:Th} (d:X[j]?=some t) {k:Nat} (c:t.F k):w.heap.size<=k:=by
 have hx:(BV w0 b ns::CI b w::X)[j+2]?=some t:=d;have e:=(K.H.lo (K.ix (j+2)) _ (K.at (j+2) hx) k c).1;refine Nat.le_of_not_lt λa=>?_;by_cases hb:k=b
 ·exact K.H.apart (K.ix (j+2)) (K.ix 0) _ _ (K.at (j+2) hx) (K.at 0 rfl) (by unfold Wk.ix;omega) k c hb
 exact K.H.apart (K.ix (j+2)) (K.ix 1) _ _ (K.at (j+2) hx) (K.at 1 rfl) (by unfold Wk.ix;omega) k c ⟨by omega,a⟩
def Ci (nm:List UInt8) (t:Ty) (frm:Int) (es:List (Int×Int×Int)):Df:=⟨2,nm,t.1,t.2.1,t.2.2.1,t.2.2.2,frm,es,BU,0,0,0⟩
structure AII (key:Int) (es:List (Int×Int×Int)):Prop where
 len:es.length<=3
 ent:∀e∈es,0<=e.1/\e.1<=12/\e.2∈G5
 up:es.Pairwise (λa b=>a.1<b.1)
 low:∀e∈es,e.1<key
structure FZ (es:List (Int×Int×Int)):Prop where
 len:es.length<=3
 ent:∀e∈es,0<=e.1/\e.1<=12/\e.2∈G5
 up:es.Pairwise (λa b=>a.1<b.1)
 pos:0<es.length
def Gq (lo:Nat) (Pd:Df->Prop) (v:Value) (u:World):Prop:=∃d A1 c1 A2 c2,v=D (CL d A1 c1 A2 c2)/\Pd d/\Ff (λg=>lo<=g) u d (CL d A1 c1 A2 c2)
def DfP (b:Nat) (ns:List Int) (Pd:Df->Prop) (w:World) (e:Ending) (w':World):Prop:=∃v,e=.returned v/\Gq (U w) Pd v w'/\Br b ns w'/\CU b w w'
theorem Zg {S:Nat->Prop} {w:World}:DD S w BU (Ad BU none 0):=Xq rfl
noncomputable def Z1:Code:=Tryz.f19.body.getD .skip
def rh:=ν [.code Z1]
def rg:=Ψ rh
def bc:=Ψ rg
def bZ:=ν (Au bc)
def bY:=Θ bZ
def ADd:=Ω bY
def ADc:=Ξ bZ
theorem W3 (b:Nat) (ns:List Int) (nm:List UInt8) (t:Ty) (frm:Int) (w:World) (o:Br b ns w):Calls Tryz.prog 19 ([Z b,Y nm,D (BE t),J frm]:List Value).toArray w (DfP b ns (λd=>∃es,d=Ci nm t frm es/\FZ es) w):=by
 refine AS (fn:=Tryz.f19) (c:=Z1) (n:=40) ?_;obtain⟨w0,l,K0⟩:=Wk.tape o;have hw:=K0.B;refine An rh [N (U w) (BE t) 65,N (U w+1) (CL ⟨0,[],false,0,0,0,0,[],BU,0,0,0⟩ none 0 none 0) 72,N (U w+2) (CL (Ci nm t frm []) none 0 none 0) 72] (K0.addNil 107 3 (λ(e:Int×Int×Int) r=>r=IR e)) [(0,0),(2,0)] λw1 K1=>?_;refine BS K1 l 0 rfl (Be b ns 2 _ (K1.tapeOk l 0 rfl) (by omega) (by omega)) Bl.ok λe w2 k K2=>?_;obtain⟨k2,p0,rfl,_,_⟩:=k;refine⟨_,rfl,?_⟩;refine AC rg K2 [] λw3 f=>?_;refine BS f l 0 rfl (Be b ns 3 _ (f.tapeOk l 0 rfl) (by omega) (by omega)) Bl.ok λe w4 k K4=>?_;obtain⟨k4,m0,rfl,_,_⟩:=k;refine⟨_,rfl,?_⟩;refine AC bc K4 [] λw5 K5=>?_;refine AX [(0,Z b),(8,Z (U w+1)),(9,Z (U w+2)),(10,J (k2:Int)),(11,J (IntKind.i64.wrap (1+(k4:Int))))] λE5=>?_;rw[show IntKind.i64.wrap (1+(k4:Int))=((k4+1:Nat):Int) by rw[IntWalk.i64_in _ (by omega)];omega];refine Bp (by kernel_rfl) (λE wx=>∃(i:Nat) (key:Int) (es:List (Int×Int×Int)) (A:Option Addr) (c:Nat) (E0:Nat->Value),i<=3/\E=BN E0 [(0,Z b),(8,Z (U w+1)),(9,Z (U w+2)),(10,J key),(11,J (i:Int))]/\AII key es/\es.length+i<=3/\1<=es.length+i/\0<=key/\key+i*4<=13/\Wk w0 wx [N (U w) (BE t) 65,N (U w+1) (CL ⟨0,[],false,0,0,0,0,[],BU,0,0,0⟩ none 0 none 0) 72,N (U w+2) (CL (Ci nm t frm es) A c none 0) 72] [BV w0 b ns,CI b w,Ib A c es] []) (λE _=>AP (E 11)) ⟨k4+1,k2,[],none,0,E5,by omega,rfl,⟨Nat.zero_le _,(λe he=>by cases he),List.Pairwise.nil,(λe he=>by cases he)⟩,by simp;omega,by simp,by omega,by omega,K5⟩ ?_;clear K0 K1 K2 f K4 K5;rintro E wx ⟨i,key,es,A,c,E0,hi,rfl,j,t0,r0,b0,q0,K1⟩ m;refine AC bZ K1 [] λw2 K2=>?_;refine AH (decide (0<(i:Int))) (λhc=>?_) (λd0=>?_)
 ·have c0:0<i:=by have:=of_decide_eq_true hc;omega
  refine AC bY K2 [] λw3 f=>?_;refine AX [(0,Z b),(8,Z (U w+1)),(9,Z (U w+2)),(10,J key),(11,J (i:Int))] λE3=>?_;refine FJ f l 0 rfl [0,1,2,3,4,5,6] [N (U w) (BE t) 65,N (U w+1) (CL ⟨0,[],false,0,0,0,0,[],BU,0,0,0⟩ none 0 none 0) 72,N (U w+2) (CL (Ci nm t frm es) A c none 0) 72] [(1,2,7)] [(4,λv _=>∃q∈G5,v=D [J q.1,J q.2]),(5,λv _=>∃q∈G5,v=D [J key,J q.1,J q.2]),(6,λv u=>∃q∈G5,∃g,v=φ g 1 1/\g≠b/\Ax.good u (N g [J key,J q.1,J q.2] 107))] 3 (λu hu=>hu.G) (λp s=>?_) (λp s X u hu e0 hf=>?_) λX u hu e0 hf=>?_
  ·simp only[mem_cons,not_mem_nil,or_false]at s;rcases s with rfl | rfl | rfl
   ·exact λ_ _ _ _ h=>h
   ·exact λ_ _ _ _ h=>h
   exact λv u u' he ⟨q,k,g,h1,h2,h3⟩=>⟨q,k,g,h1,h2,FT h3 he.size (he.block g h3.1 h2)⟩
  ·have o:=hu.tapeOk l 0 rfl;simp only[mem_cons,not_mem_nil,or_false]at s;rcases s with rfl | rfl | rfl
   ·exact CF (g:=40) (xs:=[.tmp 28]) (args:=[Z b]) ((ACw b ns u o).mono λe w' ⟨q,h1,h2,h3,h4⟩=>⟨_,h2,h3,h4,q,h1,rfl⟩) rfl
   ·obtain⟨q,k,e1⟩:∃q∈G5,X 4=D [J q.1,J q.2]:=hf 4 (by kernel_rfl) rfl;exact AL.over [(29,D [J q.1,J q.2])] ⟨Eq.trans (b:=X 4) (by kernel_rfl) e1,trivial⟩ (AL.reads ⟨0,[],(0,0),[]⟩ (λe he=>by cases he) (D [J key,J q.1,J q.2]) ⟨o,CU.refl b u,q,k,rfl⟩)
   obtain⟨q,k,e1⟩:∃q∈G5,X 5=D [J key,J q.1,J q.2]:=hf 5 (by kernel_rfl) rfl;exact AL.over [(30,D [J key,J q.1,J q.2])] ⟨Eq.trans (b:=X 5) (by kernel_rfl) e1,trivial⟩ (IB (λz=>φ z 1 1) [J key,J q.1,J q.2] 107 (λw' hB hg=>⟨o.below hB,.of_below hB,q,k,U u,rfl,Nat.ne_of_gt o.lt,hg⟩) (by intro z;kernel_rfl))
  obtain⟨q,k,g,e1,_,hg⟩:∃q∈G5,∃g,X 6=φ g 1 1/\g≠b/\Ax.good u (N g [J key,J q.1,J q.2] 107):=hf 6 (by simp) rfl;refine Bk [(0,Z b),(8,Z (U w+1)),(9,Z (U w+2)),(10,J key),(11,J (i:Int)),(26,V A es.length c),(31,X 6)] λE4=>?_;rw[e1];have j0:=j.1;obtain⟨A',c',w6,hx,Hn,b6⟩:=az (ρ:=BK 40 _) hu.H (hu.ix 2) (hu.at 2 rfl) [(key,q.1,q.2)] [IR (key,q.1,q.2)] ⟨rfl,trivial⟩ ⟨g,0,none⟩ 1 (Mb (n:=3) (Db (rs:=[IR (key,q.1,q.2)]) (λr hr=>by rw[mem_singleton.1 hr];rfl) (by simpa using hg)) (λr hr=>by rw[mem_singleton.1 hr];rfl)) ((Ak bY).getD 7 default) (.tmp 26) (.tmp 31) 67 (by kernel_rfl) (by kernel_rfl) (by kernel_rfl) (by decide) (by kernel_rfl) (by kernel_rfl) (λr hr=>by rw[mem_singleton.1 hr];rfl) (λr hr=>by rw[mem_singleton.1 hr];rfl) (by simp;omega);refine bB 7 hx ?_;have K6:Wk w0 w6 [N (U w) (BE t) 65,N (U w+1) (CL ⟨0,[],false,0,0,0,0,[],BU,0,0,0⟩ none 0 none 0) 72,N (U w+2) (CL (Ci nm t frm es) A c none 0) 72] [BV w0 b ns,CI b w,Ib A' c' (es++[(key,q.1,q.2)])] []:=hu.put 2 (by simp) b6 Hn;refine EL K6 [(8,0,0),(9,2,7)] (λ_=>[N (U w) (BE t) 65,N (U w+1) (CL ⟨0,[],false,0,0,0,0,[],BU,0,0,0⟩ none 0 none 0) 72,N (U w+2) (CL (Ci nm t frm (es++[(key,q.1,q.2)])) A' c' none 0) 72]) λz w7 K7=>?_;refine AX [(0,Z b),(8,Z (U w+1)),(9,Z (U w+2)),(10,J key),(11,J (i:Int))] λE7=>?_;refine AC ADd K7 [] λw8 K8=>?_;refine BS K8 l 0 rfl (Be b ns 4 _ (K8.tapeOk l 0 rfl) (by omega) (by omega)) Bl.ok λe w9 a0 K9=>?_;obtain⟨k9,l0,rfl,_,_⟩:=a0;refine⟨_,rfl,?_⟩;refine AC (Ab bc) K9 [] λk0 g0=>?_;refine AX [(0,Z b),(8,Z (U w+1)),(9,Z (U w+2)),(10,J (IntKind.i64.wrap (key+IntKind.i64.wrap (1+(k9:Int))))),(11,J (IntKind.i64.wrap ((i:Int)-1)))] λi0=>?_;rw[IntWalk.i64_in (1+(k9:Int)) (by omega),IntWalk.i64_in (key+(1+(k9:Int))) (by omega),show IntKind.i64.wrap ((i:Int)-1)=((i-1:Nat):Int) by rw[IntWalk.i64_in _ (by omega)];omega];refine m _ _ ⟨i-1,key+(1+(k9:Int)),es++[(key,q.1,q.2)],A',c',i0,by omega,rfl,⟨by simp;omega,λe he=>?_,?_,λe he=>?_⟩,by simp;omega,by simp;omega,by omega,by omega,g0⟩ ?_
  ·rcases mem_append.1 he with he | he
   ·exact j.2 e he
   rw[mem_singleton.1 he];exact⟨b0,by show key<=12;omega,k⟩
  ·rw[pairwise_append];exact⟨j.up,pairwise_singleton _ _,λa ha b hb=>by rw[mem_singleton.1 hb];exact j.low a ha⟩
  ·rcases mem_append.1 he with he | he
   ·have:=j.low e he;omega
   rw[mem_singleton.1 he];show key<_;omega
  show AP (J ((i-1:Nat):Int))<AP (J (i:Int));simp only[AP];omega
 have c0:i=0:=by have:=of_decide_eq_false d0;omega
 refine An ADc [N (U w) (BE t) 65,N (U w+1) (CL (Ci nm t frm es) A c none 0) 72,N (U w+2) (CL (Ci nm t frm es) A c none 0) 72] K2 [(2,0),(1,0)] λw3 f=>?_;refine AN f (1,0) (D (CL (Ci nm t frm es) A c none 0)) ⟨_,rfl,⟨_,A,c,none,0,rfl,⟨es,rfl,j.len,j.ent,j.up,by omega⟩,A,c,Ad BU none 0,Zg,?_,rfl⟩,f.out l hw⟩;rcases(show DF Cg w3 3 A (es.map IR)from f.H.rowsF (λ_=>rfl) (f.ix 2) (f.at 2 rfl))with h1 | ⟨g,off,hA,_,h2⟩
 ·exact .inl h1
 refine .inr ⟨g,off,hA,?_,h2⟩;obtain⟨g',rfl,_⟩:∃g',A=θ g'/\True:=by
  cases hl:es with
  | nil=>
   rcases((show(Ib A c es).P w3 from f.H.all (f.ix 2) _ (f.at 2 rfl)))with⟨rs,_,ho⟩;rcases ho.2 with⟨y,_⟩ | ⟨g9,_,_,y,_⟩
   ·rw[show A=none by simp only[Value.slice.injEq]at y;exact y.1]at hA
    cases hA
   exact⟨g9,by simp only[Value.slice.injEq]at y;exact y.1,trivial⟩
  | cons x r=>
   obtain⟨g9,h9,_⟩:=f.H.rowAt (f.ix 2) (f.at 2 rfl) (by rw[hl];exact Nat.succ_pos _);exact⟨g9,h9,trivial⟩
 obtain⟨rfl,_⟩:g'=g/\0=off:=by simpa using hA
 exact f.newerT l 0 rfl (show(Ib (θ g') c es).F g' from rfl)
end
end Go.Proofs.YtkpemkkbjfbmaaaGreat

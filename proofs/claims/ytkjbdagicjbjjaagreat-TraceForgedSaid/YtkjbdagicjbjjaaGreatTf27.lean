/-
  Part 27 of a proof: contracts of functions.
-/
import Derived.Test.YtkjbdagicjbjjaaGreatTf26
set_option linter.all false
namespace Go.Proofs.YtkjbdagicjbjjaaGreat
noncomputable section
open Go.RowKit
set_option maxRecDepth 100000
set_option maxHeartbeats 1000000
attribute [local irreducible] A8 BL AC AD AF Ao AY AL Aq Bb Cn BR BK At Fr
def Bl (ds:List (Df)) (p1:Int):List (Nat)→Int→List Nat→List (Nat×List Nat)→List Nat×List (Nat×List Nat)×Int
 | [],a0_0,a0_1,a0_2=>(a0_1,a0_2,0)
 | e0 :: tl,a0_0,a0_1,a0_2=>cond (!(Al (ds.getD e0 default))) (Bl ds p1 tl a0_0 a0_1 a0_2) (cond (!(((Cf ds (An ds p1) e0)).2 == 0)) (([],[],((Cf ds (An ds p1) e0)).2)) (Bl ds p1 tl a0_0 (a0_1++[e0]) ((e0,((Cf ds (An ds p1) e0)).1) :: a0_2)))
theorem OG {ds:List (Df)} {p1:Int} {c:Int} {b:List Nat} {a:List (Nat×List Nat)}:Bl ds p1 [] c b a=((b,a,0)):=by rw [Bl]
theorem Nc {ds:List (Df)} {p1:Int} {c:Int} {b:List Nat} {a:List (Nat×List Nat)} {es:List (Nat)} (i d:Nat) (hi:es[i]?=some d):Bl ds p1 (es.drop i) c b a=(cond (!(Al (ds.getD d default))) (Bl ds p1 (es.drop (i + 1)) c b a) (cond (!(((Cf ds (An ds p1) d)).2 == 0)) (([],[],((Cf ds (An ds p1) d)).2)) (Bl ds p1 (es.drop (i + 1)) c (b++[d]) ((d,((Cf ds (An ds p1) d)).1) :: a)))):=by
 have hl:i < es.length:=(List.getElem?_eq_some_iff.1 hi).1
 have he:es[i]=d:=(List.getElem?_eq_some_iff.1 hi).2
 rw [← List.getElem_cons_drop hl,Bl] <;> (try rw [he])
def BJ (p0a:List UInt8) (ds:List (Df)) (p1:Int):List Nat×List (Nat×List Nat)×Int:=cond (!(DF p0a ds p1 == 0)) (([],[],DF p0a ds p1)) (Bl ds p1 (An ds p1) 0 ([]) ([]))
noncomputable def ku:Code:=Tryz.f52.body.getD .skip
def xY:=AA 60 ([.code ku])
def cP:=AA 60 (AC xY)
def ADA:=AA 60 (AD cP)
def mR:=AA (Ak EA 90 (AF cP)) (AF cP)
def xX:=AA 60 (AC mR)
def cO:=AA 60 (AC xX)
def cN:=AA 60 (Ao cO)
def mQ:=AA (Ak Aa 90 (AD cN)) (AD cN)
def xW:=AA (Ak Aa 90 (AC (AC mQ))) (AC (AC mQ))
def xV:=AA 60 (AC (AC xW))
def rk:=AA 60 (AC xV)
def rh:=AA 60 (AF rk)
def Sj:=AA 60 (AC rh)
def ABe:=AA 60 (AD Sj)
def Si:=AA (Ak BS 90 (AF Sj)) (AF Sj)
def rg:=AA (Ak EN 90 (AC Si)) (AC Si)
def ABd:=AA 60 (AF cN)
theorem Vh (a:List UInt8) (u:Option Addr) (ds:List (Df)) (m:Nat) (p1:Int) (w:World) (n0:rowsDf w u ds) (f1:ds.length≤4294967296) (hs:a.length≤4294967296) (ht:∀ d∈ds,FU d) (s1:∀ d∈ds,DR d.body) (hn:∀ d∈ds,nE d.body≤1000000):Calls Tryz.prog 52 ([.agg ⟨[By a,.slice u ds.length m]⟩,AI p1]:List Value).toArray w fun e w'=>(∃ (q1:Option Addr) (n1 o1:Nat) (e1:List ML),e=.returned (.tuple #[.agg ⟨[.slice q1 ((((BJ a ds p1)).1).length) n1,.map (some o1)]⟩,AI (((BJ a ds p1)).2.2)])∧e1.map IY=((BJ a ds p1)).2.1∧Below w.heap.size w w'∧((BJ a ds p1)).2.2=0∧Ac w.heap.size w' [BN q1 n1 (((BJ a ds p1)).1),BT.th IW o1 (e1.map KX),G6 e1])∨(e=.returned (.tuple #[.agg ⟨[.slice none 0 0,.map none]⟩,AI (((BJ a ds p1)).2.2)])∧¬ ((BJ a ds p1)).2.2=0∧Below w.heap.size w w'):=by
 refine AR (fn:=Tryz.f52) (c:=ku) (n:=61) ?_
 have K1:=Wk.start w
 refine Af xY [⟨w.heap.size,0,[By a,.slice u ds.length m],27,true⟩,⟨w.heap.size + 1,0,[.slice none 0 0,.map none],131,true⟩] K1 [(0,0)] fun w1 K2=>?_
 refine AQ K2 (args:=[.agg ⟨[By a,.slice u ds.length m]⟩,AI p1]) (MA a _ ds _ p1 w1 (n0.below K2.B) f1 hs ht) fun w2 K3=>?_
 refine AB cP K3 [] fun w3 K4=>?_
 refine AG (!(DF a ds p1 == 0)) (fun c4=>?_) (fun c4=>?_)
 ·have K5:=K4.addNil 3 1 (fun e r=>r=FV e)
  refine AB ADA K5 [(1,0)] fun w5 K6=>?_
  have hS:(BJ a ds p1)=([],[],DF a ds p1):=by unfold BJ; rw [c4] <;> rfl
  exact AJ K6 (1,0) (.tuple #[.agg ⟨[.slice none 0 0,.map none]⟩,AI (DF a ds p1)]) (.inr ⟨by rw [hS] <;> rfl,by rw [hS]; simpa using c4,K6.B⟩)
 ·refine Ae EA mR K4 [] fun w6 K7=>?_
  refine Ey IW K7.H (Br mR) (by kernel_rfl) (t:=129) (by kernel_rfl) fun w7 Z7 Hn b7=>?_
  have K8:=K7.add b7 Hn
  have K9:=K8.addFam j9
  refine Af xX [⟨w.heap.size,0,[By a,.slice u ds.length m],27,true⟩,⟨w.heap.size + 1,0,[.slice none 0 0,.map none],131,true⟩,⟨w7.heap.size,0,[.slice none 0 0,.map (some w6.heap.size)],131,true⟩] K9 [(2,0),(0,0)] fun w8 c2=>?_
  refine A7 (MC a u ds m p1 w8 (n0.below c2.B) (by first | assumption | omega | (simp <;> omega))) fun en g4 hh=>?_
  obtain ⟨c0,h,rfl,q2,Hn⟩:=hh
  refine ⟨_,rfl,?_⟩
  have i3:=c2.join q2 Hn
  have h4:=Iw (ds:=ds) (p1:=p1)
  refine AB cO i3 [] fun i2 h3=>?_
  have g3:Wk w i2 [⟨w.heap.size,0,[By a,.slice u ds.length m],27,true⟩,⟨w.heap.size + 1,0,[.slice none 0 0,.map none],131,true⟩,⟨w7.heap.size,0,[.slice none 0 0,.map (some w6.heap.size)],131,true⟩] [(BT.th IW w6.heap.size (([]:List ML).map KX)),(G6 ([])),(BN c0 h (An ds p1))] []:=h3.pk [0,1,2] [0,1,2]
  have f3:=g3.addNil 3 1 (fun e r=>r=FV e)
  have d0:(BJ a ds p1)=Bl ds p1 (An ds p1) 0 ([]) ([]):=by unfold BJ; rw [c4] <;> rfl
  refine AU [(2,BY (w.heap.size)),(4,BY (w.heap.size + 1)),(5,AI 0),(7,BY (w7.heap.size)),(8,.slice c0 ((An ds p1).length) h),(25,.slice c0 ((An ds p1).length) h),(26,AI (((An ds p1).length:Int))),(27,AI (((0:Nat):Int)))] fun m3=>?_
  refine Bd (by kernel_rfl) (fun E m1=>∃ (v:Nat) (a0:Int) (j:List Nat) (i:List ML) (p:Option Addr) (o:Nat) (E0:Nat→Value),v≤(An ds p1).length∧E=BC E0 [(2,BY (w.heap.size)),(4,BY (w.heap.size + 1)),(5,AI a0),(7,BY (w7.heap.size)),(8,.slice c0 ((An ds p1).length) h),(25,.slice c0 ((An ds p1).length) h),(26,AI (((An ds p1).length:Int))),(27,AI ((v:Int)))]∧(BJ a ds p1)=Bl ds p1 (List.drop v (An ds p1)) a0 j (i.map IY)∧j.length≤1 * v + 0∧i.length≤1 * v + 0∧Wk w m1 [⟨w.heap.size,0,[By a,.slice u ds.length m],27,true⟩,⟨w.heap.size + 1,0,[.slice none 0 0,.map none],131,true⟩,⟨w7.heap.size,0,[.slice p j.length o,.map (some w6.heap.size)],131,true⟩] [(BT.th IW w6.heap.size (i.map KX)),(G6 i),(BN c0 h (An ds p1)),(BN p o j)] []) (fun E _=>(An ds p1).length - AK (E 27)) ⟨0,0,([]),([]),none,0,m3,Nat.zero_le _,rfl,d0,by simp,by simp,f3⟩ ?_
  clear d0
  rintro E m1 ⟨v,a0,j,i,p,o,E0,k4,rfl,d0,m2,l2,e3⟩ g0
  refine AB cN e3 [] fun f4 w0=>?_
  refine AG (decide ((v:Int) < ((An ds p1).length:Int))) (fun i1=>?_) (fun i1=>?_)
  ·have m0:v < (An ds p1).length:=by have:=of_decide_eq_true i1; omega
   obtain ⟨b,k0⟩:∃ e,(An ds p1)[v]?=some e:=⟨_,List.getElem?_eq_getElem m0⟩
   rw [Nc v b k0] at d0
   obtain ⟨b0,rfl,n3⟩:=w0.H.rowAt (w0.ix 2) (w0.at 2 rfl) (by omega)
   refine Ae Aa mQ w0 [] fun e4 b1=>?_
   refine Au (g:=b0) (off:=0) (cap:=h) (sz:=1) (k:=v) (len:=(An ds p1).length) (some 29) m0 Tryz.underlying22 ?_
   refine Dh 3 b0 (0 + v * 1) (AI ((b:Int))) (some 30) (by simpa using (b1.H.cellsF (T:=3) (n:=1) (f:=FV) (c:=h) (l:=(An ds p1)) (fun _=>rfl) (b1.ix 2) (b1.at 2 rfl) k0) 0 _ rfl) ?_
   obtain ⟨h0,j0,rfl,u1,v1⟩:=n0.all (Nat.lt_of_le_of_lt (Nat.zero_le _) (EI _ (List.mem_of_getElem? k0)))
   have k2:ds[b]?=some (ds.getD b default):=getD_some default (EI _ (List.mem_of_getElem? k0))
   obtain ⟨s0,q0,r0,p0,r1,h1,g1⟩:=v1 b _ k2
   refine Ae Aa xW b1 [(0,1)] fun b4 b2=>?_
   refine Au (g:=h0) (off:=j0) (cap:=m) (sz:=21) (k:=b) (len:=ds.length) (some 34) (EI _ (List.mem_of_getElem? k0)) Tryz.underlying25 ?_
   refine BI 59 h0 (j0 + b * 21) [AI ((ds.getD b default).kind),By ((ds.getD b default).name),.bool ((ds.getD b default).tb),AI ((ds.getD b default).tm),AI ((ds.getD b default).th),AI ((ds.getD b default).td),AI ((ds.getD b default).frm),.slice s0 ((ds.getD b default).ents.length) q0,AI ((ds.getD b default).body.op),AI ((ds.getD b default).body.num),AI ((ds.getD b default).body.den),AI ((ds.getD b default).body.mu),AI ((ds.getD b default).body.hu),AI ((ds.getD b default).body.du),By ((ds.getD b default).body.nm),AI ((ds.getD b default).body.cnt),AI ((ds.getD b default).body.md),.slice r0 ((ds.getD b default).body.ks.length) p0,AI ((ds.getD b default).mode),AI ((ds.getD b default).num),AI ((ds.getD b default).den)] (some 35) (Ab r1 u1 b2.B) ?_
   refine AB xV b2 [] fun h2 l1=>?_
   refine AQ l1 (GU (ds.getD b default) s0 q0 r0 p0 h2 (h1.below l1.B) (g1.below l1.B)) fun a4 c3=>?_
   refine AB rk c3 [] fun z3 a2=>?_
   refine AG (!(Al (ds.getD b default))) (fun a1=>?_) (fun a1=>?_)
   ·refine AB (AY cO) a2 [] fun g2 b3=>?_
    refine AU [(2,BY (w.heap.size)),(4,BY (w.heap.size + 1)),(5,AI a0),(7,BY (w7.heap.size)),(8,.slice (IN b0) ((An ds p1).length) h),(25,.slice (IN b0) ((An ds p1).length) h),(26,AI (((An ds p1).length:Int))),(27,AI (IntKind.i64.wrap ((v:Int) + 1)))] fun l3=>?_
    have a3:Wk w g2 [⟨w.heap.size,0,[By a,.slice (some ⟨h0,j0,none⟩) ds.length m],27,true⟩,⟨w.heap.size + 1,0,[.slice none 0 0,.map none],131,true⟩,⟨w7.heap.size,0,[.slice p j.length o,.map (some w6.heap.size)],131,true⟩] [(BT.th IW w6.heap.size (i.map KX)),(G6 i),(BN (IN b0) h (An ds p1)),(BN p o j)] []:=b3.pk [0,1,2] [0,1,2,3]
    rw [Bc v (by omega)]
    refine g0 _ _ ⟨v + 1,a0,j,i,p,o,l3,m0,rfl,by rw [d0,a1] <;> first | rfl | (simp only [cond_true,cond_false,List.length_map,List.map_append,List.map_cons,List.map_nil,id]; done) | (simp only [cond_true,cond_false,List.length_map,List.map_append,List.map_cons,List.map_nil,id]; rfl),by ((try simp only [maxLen,List.length_map,List.length_append,List.length_cons,List.length_nil,List.length_singleton]) <;> omega),by (first | ((try simp only [maxLen,List.length_append,List.length_cons,List.length_nil,List.length_singleton]) <;> omega) | (refine Nat.le_trans (VR _ _ _) ?_; ((try simp only [maxLen,List.length_append,List.length_cons,List.length_nil,List.length_singleton]) <;> omega))),a3⟩ ?_
    show (An ds p1).length - AK (AI ((v + 1:Nat):Int)) < (An ds p1).length - AK (AI (v:Int))
    simp only [AK]
    omega
   ·refine AB rh a2 [(0,0)] fun e2 v0=>?_
    refine A7 (args:=[.agg ⟨[By a,.slice (some ⟨h0,j0,none⟩) ds.length m]⟩,.slice (IN b0) ((An ds p1).length) h,AI ((b:Int))]) (RV a (some ⟨h0,j0,none⟩) ds m (IN b0) (An ds p1) h b e2 (n0.below v0.B) (by first | assumption | omega | (simp <;> omega)) (v0.H.rowsNat (v0.ix 2) (v0.at 2 rfl)) (by first | assumption | omega | (simp <;> omega)) (EI _ (List.mem_of_getElem? k0)) EI s1 hn) fun en x3 hh=>?_
    obtain ⟨s,q,rfl,p2,Hn⟩:=hh
    refine ⟨_,rfl,?_⟩
    have z2:=v0.join p2 Hn
    refine AB Sj z2 [] fun d1 z1=>?_
    refine AG (!(((Cf ds (An ds p1) b)).2 == 0)) (fun z0=>?_) (fun z0=>?_)
    ·have x2:=z1.addNil 3 1 (fun e r=>r=FV e)
     refine AB ABe x2 [(1,0)] fun v3 x1=>?_
     have hS:(BJ a ds p1)=([],[],((Cf ds (An ds p1) b)).2):=by rw [d0,a1,z0] <;> rfl
     exact AJ x1 (1,0) (.tuple #[.agg ⟨[.slice none 0 0,.map none]⟩,AI (((Cf ds (An ds p1) b)).2)]) (.inr ⟨by rw [hS] <;> rfl,by rw [hS]; simpa using z0,x1.B⟩)
    ·refine CA BS Si [⟨w.heap.size,0,[By a,.slice (some ⟨h0,j0,none⟩) ds.length m],27,true⟩,⟨w.heap.size + 1,0,[.slice none 0 0,.map none],131,true⟩,⟨w7.heap.size,0,[.slice p j.length o,.map (some w6.heap.size)],131,true⟩,⟨d1.heap.size,0,[AI ((b:Int))],3,true⟩] z1 [(2,0)] fun t3 t0=>?_
     refine Cg t0.H (t0.ix 3) (t0.at 3 rfl) b [AI ((b:Int))] rfl (d1.heap.size) (t0.ent 3 (by kernel_rfl)) (Br Si) (by kernel_rfl) (.tmp 50) (.tmp 52) 22 (by kernel_rfl) (by kernel_rfl) (by kernel_rfl) (by decide) (by kernel_rfl) (by kernel_rfl) rfl rfl (by ((try simp only [maxLen,List.length_map,List.length_append,List.length_cons,List.length_nil,List.length_singleton]) <;> omega)) fun c1 x0 r3 Hn o2=>?_
     have v2:=t0.put 3 (by simp) o2 Hn
     refine CA EN rg [⟨w.heap.size,0,[By a,.slice (some ⟨h0,j0,none⟩) ds.length m],27,true⟩,⟨w.heap.size + 1,0,[.slice none 0 0,.map none],131,true⟩,⟨w7.heap.size,0,[.slice c1 ((j++[b]).length) x0,.map (some w6.heap.size)],131,true⟩,⟨d1.heap.size,0,[AI ((b:Int))],3,true⟩] v2 [(2,0),(2,1)] fun q3 l0=>?_
     refine Fj IW l0.H (l0.ix 0) (l0.at 0 rfl) b (s,(((Cf ds (An ds p1) b)).1).length,q) (by show _≤_; have:=EI _ (List.mem_of_getElem? k0); omega) (l0.H.rowSpot (l0.ix 4) (l0.at 4 rfl)) (Br rg) (by kernel_rfl) (t:=129) (x:=.tmp 56) (y:=.tmp 57) (z:=.tmp 58) (by kernel_rfl) rfl (by kernel_rfl) (by kernel_rfl) (by kernel_rfl) (by ((try simp only [maxLen,List.length_map,List.length_append,List.length_cons,List.length_nil,List.length_singleton]) <;> omega)) fun p3 Hn n2=>?_
     have u2:=l0.put 0 (by simp) n2 Hn
     have t2:=u2.take 1 4 j9 i (((b,((Cf ds (An ds p1) b)).1,s,q) :: i:List ML)) (b,((Cf ds (An ds p1) b)).1,s,q) rfl rfl (by decide) (by intro z; simp)
     refine AB (AY cO) t2 [] fun d2 s2=>?_
     refine AU [(2,BY (w.heap.size)),(4,BY (w.heap.size + 1)),(5,AI a0),(7,BY (w7.heap.size)),(8,.slice (IN b0) ((An ds p1).length) h),(25,.slice (IN b0) ((An ds p1).length) h),(26,AI (((An ds p1).length:Int))),(27,AI (IntKind.i64.wrap ((v:Int) + 1)))] fun k3=>?_
     have r2:Wk w d2 [⟨w.heap.size,0,[By a,.slice (some ⟨h0,j0,none⟩) ds.length m],27,true⟩,⟨w.heap.size + 1,0,[.slice none 0 0,.map none],131,true⟩,⟨w7.heap.size,0,[.slice c1 ((j++[b]).length) x0,.map (some w6.heap.size)],131,true⟩] [(BT.th IW w6.heap.size (((b,((Cf ds (An ds p1) b)).1,s,q) :: i:List ML).map KX)),(G6 ((b,((Cf ds (An ds p1) b)).1,s,q) :: i)),(BN (IN b0) h (An ds p1)),(BN c1 x0 (j++[b]))] []:=s2.pk [0,1,2] [0,1,2,3]
     rw [Bc v (by omega)]
     refine g0 _ _ ⟨v + 1,a0,(j++[b]),((b,((Cf ds (An ds p1) b)).1,s,q) :: i),c1,x0,k3,m0,rfl,by rw [d0,a1,z0] <;> first | rfl | (simp only [cond_true,cond_false,List.length_map,List.map_append,List.map_cons,List.map_nil,id]; done) | (simp only [cond_true,cond_false,List.length_map,List.map_append,List.map_cons,List.map_nil,id]; rfl),by ((try simp only [maxLen,List.length_map,List.length_append,List.length_cons,List.length_nil,List.length_singleton]) <;> omega),by (first | ((try simp only [maxLen,List.length_append,List.length_cons,List.length_nil,List.length_singleton]) <;> omega) | (refine Nat.le_trans (VR _ _ _) ?_; ((try simp only [maxLen,List.length_append,List.length_cons,List.length_nil,List.length_singleton]) <;> omega))),r2⟩ ?_
     show (An ds p1).length - AK (AI ((v + 1:Nat):Int)) < (An ds p1).length - AK (AI (v:Int))
     simp only [AK]
     omega
  ·have t1:v=(An ds p1).length:=by have:=of_decide_eq_false i1; omega
   rw [t1,List.drop_length,OG] at d0
   refine Aj ABd w0 [(2,0),(1,0)] fun o3 k1=>?_
   have hS:(BJ a ds p1)=(j,(i.map IY),0):=by rw [d0] <;> rfl
   exact AJ k1 (1,0) (.tuple #[.agg ⟨[.slice p j.length o,.map (some w6.heap.size)]⟩,AI 0]) (.inl ⟨p,o,w6.heap.size,i,by rw [hS] <;> rfl,by rw [hS],k1.B,by rw [hS],by rw [hS]; exact k1.own0 [3,0,1] rfl (by decide)⟩)
end
end Go.Proofs.YtkjbdagicjbjjaaGreat
namespace Go.Proofs.YtkjbdagicjbjjaaGreat
noncomputable section
open Go.RowKit
set_option maxRecDepth 100000
set_option maxHeartbeats 1000000
attribute [local irreducible] A8 BL AC AD AF Ao AY AL Aq Bb Cn BR BK At Fr
def Hk (i:Nat) (ml:List (Nat×Bool)):Bool:=!((AO ml i).getD false)
noncomputable def Q5:Code:=Tryz.f80.body.getD .skip
def cM:=AA (Ak (Fw 76) 90 ([.code Q5])) ([.code Q5])
def re:=AA (Ak Ce 90 (AC (cM))) (AC (cM))
def ABc:=AA 60 (AC re)
theorem Wq (i b h:Nat) (g:List (Nat×Bool)) (w:World) (d:b < w.heap.size) (a:w.rangeAt b 0 [.map (some h)]) (f:BT.at D0 h g w) (hi:i≤4294967296):Calls Tryz.prog 80 ([AI ((i:Int)),BY b]:List Value).toArray w fun e w'=>e=.returned (.bool (Hk i g))∧Below w.heap.size w w':=by
 refine AR (fn:=Tryz.f80) (c:=Q5) (n:=8) ?_
 have o:=d
 have j:=a
 have q:=Wk.start w
 refine Ae (Fw 76) cM q [] fun u l=>?_
 refine Dh 76 b 0 (.map (some h)) (some 4) (by simpa using Ab a d l.B 0 _ rfl) ?_
 refine Ae Ce re l [] fun s k=>?_
 refine C4 (Ff D0 (t:=76) (x:=.tmp 4) (y:=.tmp 5) (by kernel_rfl) rfl (b:=h) (m:=g) (by kernel_rfl) i (by kernel_rfl) hi (BT.below f k.B)) ?_
 refine AB ABc k [] fun r p=>?_
 exact AP p (0,0) (.bool (!((AO g i).getD false))) (by unfold Hk; rfl)
end
end Go.Proofs.YtkjbdagicjbjjaaGreat
namespace Go.Proofs.YtkjbdagicjbjjaaGreat
noncomputable section
open Go.RowKit
set_option maxRecDepth 100000
set_option maxHeartbeats 1000000
attribute [local irreducible] A8 BL AC AD AF Ao AY AL Aq Bb Cn BR BK At Fr
def CS (F:Nat→Bool):List (Nat)→Nat→Int→Int
 | [],i0,a0_0=>-1
 | e0 :: tl,i0,a0_0=>cond (F e0) ((i0:Int)) (CS F tl (i0 + 1) a0_0)
theorem OO {F:Nat→Bool} {b:Nat} {a:Int}:CS F [] b a=(-1):=by rw [CS]
theorem Nd {F:Nat→Bool} {b:Int} {es:List (Nat)} (a c:Nat) (hi:es[a]?=some c):CS F (es.drop a) a b=(cond (F c) ((a:Int)) (CS F (es.drop (a + 1)) (a + 1) b)):=by
 have hl:a < es.length:=(List.getElem?_eq_some_iff.1 hi).1
 have he:es[a]=c:=(List.getElem?_eq_some_iff.1 hi).2
 rw [← List.getElem_cons_drop hl,CS] <;> (try rw [he])
def CM (F:Nat→Bool) (ds:List (Nat)):Int:=CS F ds 0 0
noncomputable def Xh:Code:=Tryz.f77.body.getD .skip
def Yu:=AA 60 ([.code Xh])
def R9:=AA 60 (Ao Yu)
def n5:=AA (Ak Aa 90 (AD R9)) (AD R9)
def n4:=AA 60 (AC (AC n5))
def nz:=AA 60 (AC n4)
def zL:=AA 60 (AD nz)
def zK:=AA 60 (AF R9)
theorem Mk (F:Nat→Bool) (j:Option Addr) (ds:List (Nat)) (f:Nat) (g:FuncId) (cap:List Value) (w:World) (t:rowsNat w j ds) (a0:ds.length≤4294967296) (hg:DG Tryz.prog g=true) (hF:∀ u,Below w.heap.size w u→∀ (e:Nat),e∈ds→Calls Tryz.prog g (AI (e:Int) :: cap).toArray u fun en w'=>en=.returned (.bool (F e))∧Below u.heap.size u w'):Calls Tryz.prog 77 ([.slice j ds.length f,.func (.func g) #[] ⟨cap⟩]:List Value).toArray w fun e w'=>e=.returned (AI (CM F ds))∧Below w.heap.size w w':=by
 refine AR (fn:=Tryz.f77) (c:=Xh) (n:=19) ?_
 have K1:=Wk.start w
 refine AB Yu K1 [] fun w1 K2=>?_
 have K3:Wk w w1 [] [] []:=K2.pk [] []
 have b:(CM F ds)=CS F ds 0 0:=by unfold CM; rfl
 refine AU [(0,.slice j ds.length f),(1,.func (.func g) #[] ⟨cap⟩),(4,AI 0),(7,AI ((ds.length:Int))),(8,AI (((0:Nat):Int)))] fun E2=>?_
 refine Bd (by kernel_rfl) (fun E q=>∃ (a:Nat) (d:Int) (E0:Nat→Value),a≤ds.length∧E=BC E0 [(0,.slice j ds.length f),(1,.func (.func g) #[] ⟨cap⟩),(4,AI d),(7,AI ((ds.length:Int))),(8,AI ((a:Int)))]∧(CM F ds)=CS F (List.drop a ds) a d∧Wk w q [] [] []) (fun E _=>ds.length - AK (E 8)) ⟨0,0,E2,Nat.zero_le _,rfl,b,K3⟩ ?_
 clear b
 rintro E q ⟨a,d,E0,l0,rfl,b,K4⟩ i
 refine AB R9 K4 [] fun w4 K5=>?_
 refine AG (decide ((a:Int) < (ds.length:Int))) (fun c5=>?_) (fun c5=>?_)
 ·have h:a < ds.length:=by have:=of_decide_eq_true c5; omega
  obtain ⟨y,l⟩:∃ e,ds[a]?=some e:=⟨_,List.getElem?_eq_getElem h⟩
  rw [Nd a y l] at b
  obtain ⟨m,o,rfl,v,x⟩:=t.all (by omega)
  have r:=x a _ l
  refine Ae Aa n5 K5 [] fun w6 K6=>?_
  refine Au (g:=m) (off:=o) (cap:=f) (sz:=1) (k:=a) (len:=ds.length) (some 14) h Tryz.underlying22 ?_
  refine Dh 3 m (o + a * 1) (AI ((y:Int))) (some 15) (by simpa using Ab r v K6.B 0 _ rfl) ?_
  refine AB n4 K6 [] fun w7 K7=>?_
  refine M3 g (AI ((y:Int)) :: cap) (hg:=hg) (hF w7 K7.B _ (List.mem_of_getElem? l)) fun en w8 hh=>?_
  obtain ⟨rfl,b8⟩:=hh
  refine ⟨_,rfl,?_⟩
  have K8:=K7.below b8
  refine AB nz K8 [] fun w9 K9=>?_
  refine AG (F y) (fun p=>?_) (fun p=>?_)
  ·refine AB zL K9 [] fun k0 g0=>?_
   exact AP g0 (0,0) (AI ((a:Int))) (by rw [b,p] <;> rfl)
  ·refine AB (AY Yu) K9 [] fun z d0=>?_
   refine AU [(0,.slice (some ⟨m,o,none⟩) ds.length f),(1,.func (.func g) #[] ⟨cap⟩),(4,AI d),(7,AI ((ds.length:Int))),(8,AI (IntKind.i64.wrap ((a:Int) + 1)))] fun h0=>?_
   have c0:Wk w z [] [] []:=d0.pk [] []
   rw [Bc a (by omega)]
   refine i _ _ ⟨a + 1,d,h0,h,rfl,by rw [b,p] <;> rfl,c0⟩ ?_
   show ds.length - AK (AI ((a + 1:Nat):Int)) < ds.length - AK (AI (a:Int))
   simp only [AK]
   omega
 ·have s:a=ds.length:=by have:=of_decide_eq_false c5; omega
  rw [s,List.drop_length,OO] at b
  refine AB zK K5 [] fun j0 b0=>?_
  exact AP b0 (0,0) (AI (-1)) (by rw [b] <;> rfl)
def F9 (F:Nat→Bool) (ds:List (Nat)):Bool:=decide (0≤CM F ds)
noncomputable def WE:Code:=Tryz.f79.body.getD .skip
def eb:=AA 60 ([.code WE])
def tq:=AA 60 (AC eb)
theorem QB (F:Nat→Bool) (a:Option Addr) (ds:List (Nat)) (d:Nat) (g:FuncId) (cap:List Value) (w:World) (f:rowsNat w a ds) (b:ds.length≤4294967296) (hg:DG Tryz.prog g=true) (k:∀ u,Below w.heap.size w u→∀ (e:Nat),e∈ds→Calls Tryz.prog g (AI (e:Int) :: cap).toArray u fun l w'=>l=.returned (.bool (F e))∧Below u.heap.size u w'):Calls Tryz.prog 79 ([.slice a ds.length d,.func (.func g) #[] ⟨cap⟩]:List Value).toArray w fun e w'=>e=.returned (.bool (F9 F ds))∧Below w.heap.size w w':=by
 refine AR (fn:=Tryz.f79) (c:=WE) (n:=9) ?_
 have q:=Wk.start w
 refine AB eb q [] fun i h=>?_
 refine AQ h (args:=[.slice a ds.length d,.func (.func g) #[] ⟨cap⟩]) (Mk F _ ds _ g cap i (f.below h.B) b hg (fun j m=>k j (h.B.trans (m.mono h.B.size)))) fun s p=>?_
 refine AB tq p [] fun r o=>?_
 exact AP o (0,0) (.bool (decide (0≤CM F ds))) (by unfold F9; rfl)
end
end Go.Proofs.YtkjbdagicjbjjaaGreat
namespace Go.Proofs.YtkjbdagicjbjjaaGreat
open Go.RowKit
set_option maxRecDepth 100000
set_option maxHeartbeats 600000
def De (ml:List (Nat×Bool)) (ns:List (Nat×List Nat)) (i:Nat):Bool:=cond (!((AO ml i).getD false)) (!(F9 (fun j=>Hk j ml) ((AO ns i).getD []))) false
noncomputable def NW:Code:=Tryz.f78.body.getD .skip
noncomputable def rf:=Ai 1 ([.code NW])
theorem Ws (i b k:Nat) (f:List (Nat×Bool)) (o:Nat) (z:Option Addr) (s v p:Nat) (xs:List ML) (w:World) (a:b < w.heap.size) (d:w.rangeAt b 0 [.map (some k)]) (hm:BT.at D0 k f w) (g:o < w.heap.size) (h:w.rangeAt o 0 [.slice z s v,.map (some p)])
  (hn:BT.at IW p (xs.map KX) w) (hf:(G6 xs).P w) (hi:i≤4294967296) (hk:∀ j∈(AO (xs.map IY) i).getD [],j≤4294967296) (hl:((AO (xs.map IY) i).getD []).length≤4294967296) :
  Calls Tryz.prog 78 ([AI (i:Int),BY b,BY o]:List Value).toArray w fun e w'=>e=.returned (.bool (De f (xs.map IY) i))∧Below w.heap.size w w':=by
 refine Hs (args:=[AI (i:Int),BY b,BY o]) (fn:=Tryz.f78) (c:=NW) (n:=18) ?_
 obtain ⟨A,c,hv,hr⟩:=tV hf i
 generalize hls:(AO (xs.map IY) i).getD []=l at hv hr hk hl
 refine CY (JV 1 90 ([.code NW])) ([.code NW]) w.heap.size [] [] rf [(0,AI (i:Int)),(1,BY b),(2,BY o)] w.heap.size [] (CH w) fun w1 E1 b0 a0=>?_
 have B:Below w.heap.size w w1:=CO a0
 have G:∀ e∈([⟨b,0,[.map (some k)],76,false⟩,⟨o,0,[.slice z s v,.map (some p)],131,false⟩]:List Az),e.good w1:=fun e he=>by
  simp only [List.mem_cons,List.not_mem_nil,or_false] at he
  rcases he with rfl | rfl
  ·exact ⟨Nat.lt_of_lt_of_le a B.size,Ab d a B⟩
  ·exact ⟨Nat.lt_of_lt_of_le g B.size,Ab h g B⟩
 refine Hv ((FD rf).getD #[]) ⟨[⟨b,0,[.map (some k)],76,false⟩,⟨o,0,[.slice z s v,.map (some p)],131,false⟩],[(0,0,0),(6,1,1)],[⟨2,[(5,.map (some k)),(6,AI (i:Int))],.bool ((AO f i).getD false),true⟩,⟨8,[(11,.map (some p)),(12,AI (i:Int))],.slice A l.length c,(!((AO f i).getD false)) && true⟩,⟨10,[(13,.slice A l.length c),(14,.func (.func 80) #[] ⟨[BY b]⟩)],.bool (F9 (fun j=>Hk j f) l),(!((AO f i).getD false)) && true⟩]⟩
  [(4,.bool (cond (!((AO f i).getD false)) (!(F9 (fun j=>Hk j f) l)) false))] (by kernel_rfl) (by kernel_rfl) (by kernel_rfl) G (fun sp q=>?_) (fun X=>by kernel_rfl) (by kernel_rfl) fun w2 E2 b2=>?_
 ·simp only [List.mem_cons,List.not_mem_nil,or_false] at q
  rcases q with rfl | rfl | rfl
  ·exact BG fun _ E u bu=>Ff D0 (t:=76) (x:=.tmp 5) (y:=.tmp 6) (by kernel_rfl) rfl (b:=k) (m:=f) (by kernel_rfl) i (by kernel_rfl) hi (BT.below hm (B.trans (bu.mono B.size)))
  ·exact BG fun _ E u bu=>(Ff IW (t:=129) (x:=.tmp 11) (y:=.tmp 12) (by kernel_rfl) rfl (b:=p) (m:=xs.map KX) (by kernel_rfl) i (by kernel_rfl) hi (BT.below hn (B.trans (bu.mono B.size)))).trans (by
    show Result.ok (Next.value (IW.ev ((AO (xs.map KX) i).getD (none,0,0)))) u=_
    rw [hv]
    rfl)
  ·exact AV 79 [.tmp 13,.tmp 14] [.slice A l.length c,.func (.func 80) #[] ⟨[BY b]⟩] (fun _=>by kernel_rfl) fun hc u hu=>AN hu (QB (fun j=>Hk j f) A l c 80 [BY b] u (CU.below hr (B.trans (hu.mono B.size))) hl (by kernel_rfl) (fun u2 r j hj=>by
    have Bu:Below w.heap.size w u2:=(B.trans (hu.mono B.size)).trans (r.mono (B.trans (hu.mono B.size)).size)
    exact Wq j b k f u2 (Nat.lt_of_lt_of_le a Bu.size) (Ab d a Bu) (BT.below hm Bu) (hk j hj)))
 ·replace B:=B.trans (b2.mono B.size)
  exact El (fn:=Tryz.f78) 60 (.bool (cond (!((AO f i).getD false)) (!(F9 (fun j=>Hk j f) l)) false)) fun wz Bz=>⟨by unfold De; rw [hls],B.trans (Bz.mono B.size)⟩
end Go.Proofs.YtkjbdagicjbjjaaGreat

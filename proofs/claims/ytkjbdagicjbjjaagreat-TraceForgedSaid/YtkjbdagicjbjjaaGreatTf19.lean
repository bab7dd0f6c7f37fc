/-
  Part 19 of a proof: contracts of functions.
-/
import Derived.Test.YtkjbdagicjbjjaaGreatTf18
import Derived.Test.YtkjbdagicjbjjaaGreatTf11
set_option linter.all false
namespace Go.Proofs.YtkjbdagicjbjjaaGreat
open Go.RowKit
set_option maxRecDepth 100000
set_option maxHeartbeats 1000000
attribute [local irreducible] A8 BL AC AD AF Ao AY AL Aq Bb Cn BR BK At Fr
section
variable (sw:Ex→Prop)
end
end Go.Proofs.YtkjbdagicjbjjaaGreat
namespace Go.Proofs.YtkjbdagicjbjjaaGreat
open Go.RowKit
set_option maxRecDepth 100000
set_option maxHeartbeats 600000
section
variable (f:Ex→Nat→List Ym) (l:List Ym) (x k0 k1 k2:Ex)
end
def sw (h:Nat) (x:Ex):Prop:=x.height≤h∧(∃ q,H8 x q=true)∧DR x
section
variable {p0aaA:Option Addr} {p0aan:Nat} {p0aac:Nat} {p0abA:Option Addr} {p0abn:Nat} {p0abc:Nat} {p0acA:Option Addr} {p0acn:Nat} {p0acc:Nat} {p0adA:Option Addr} {p0adn:Nat} {p0adc:Nat} {bi:Nat} {mi:List (List UInt8×Int)} {bs:Nat} {ms:List (List UInt8×Int)} {bp:Nat} {mp:List (List UInt8×Int)} {br:Nat} {mr:List (List UInt8×Int)} {w:World}
end
end Go.Proofs.YtkjbdagicjbjjaaGreat
namespace Go.Proofs.YtkjbdagicjbjjaaGreat
noncomputable section
open Go.RowKit
set_option maxRecDepth 100000
set_option maxHeartbeats 1000000
attribute [local irreducible] A8 BL AC AD AF Ao AY AL Aq Bb Cn BR BK At Fr
def CN:List (Df)→List Df→List Df→List Df→List Df×List Df×List Df
 | [],a0_0,a0_1,a0_2=>(a0_0,a0_1,a0_2)
 | e0 :: tl,a0_0,a0_1,a0_2=>cond (e0.kind == 1) (CN tl (a0_0++[e0]) a0_1 a0_2) (cond (e0.kind == 3) (CN tl (a0_0++[e0]) a0_1 a0_2) (cond (e0.kind == 4) (CN tl (a0_0++[e0]) a0_1 a0_2) (cond (e0.kind == 2) (CN tl a0_0 (a0_1++[e0]) a0_2) (cond (e0.kind == 5) (CN tl a0_0 a0_1 (a0_2++[e0])) (CN tl a0_0 a0_1 a0_2)))))
theorem Qr {c:List Df} {b:List Df} {a:List Df}:CN [] c b a=((c,b,a)):=by rw [CN]
theorem P9 {c:List Df} {b:List Df} {a:List Df} {es:List (Df)} (i:Nat) (d:Df) (hi:es[i]?=some d):CN (es.drop i) c b a=(cond (d.kind == 1) (CN (es.drop (i + 1)) (c++[d]) b a) (cond (d.kind == 3) (CN (es.drop (i + 1)) (c++[d]) b a) (cond (d.kind == 4) (CN (es.drop (i + 1)) (c++[d]) b a) (cond (d.kind == 2) (CN (es.drop (i + 1)) c (b++[d]) a) (cond (d.kind == 5) (CN (es.drop (i + 1)) c b (a++[d])) (CN (es.drop (i + 1)) c b a)))))):=by
 have hl:i < es.length:=(List.getElem?_eq_some_iff.1 hi).1
 have he:es[i]=d:=(List.getElem?_eq_some_iff.1 hi).2
 rw [← List.getElem_cons_drop hl,CN] <;> (try rw [he])
def AX (ds:List (Df)):List Df×List Df×List Df:=CN ds ([]) ([]) ([])
noncomputable def lH:Code:=Tryz.f46.body.getD .skip
def MW:=AA 60 ([.code lH])
def cq:=AA 60 (Ao MW)
def xu:=AA (Ak Aa 90 (AD cq)) (AD cq)
def me:=AA 60 (AC (AC xu))
def mc:=AA 60 (AD me)
def xt:=AA (Ak BS 90 (AD mc)) (AD mc)
def ma:=AA 60 (AF me)
def mZ:=AA 60 (AD ma)
def xr:=AA (Ak BS 90 (AD mZ)) (AD mZ)
def co:=AA 60 (AF ma)
def sE:=AA (Ak BS 90 (AD co)) (AD co)
def Sk:=AA 60 (AF co)
def sD:=AA (Ak BS 90 (AD Sk)) (AD Sk)
def cp:=AA 60 (AF Sk)
def sC:=AA (Ak BS 90 (AD cp)) (AD cp)
def ABy:=AA 60 (AF cq)
theorem eC (L:List Th) (m2:List UInt8) (h0:Option Addr) (ds:List (Df)) (x:Nat) (w we:World) (u1:rowsDf w h0 ds) (n2:ds.length≤4294967296) (B:Below w.heap.size w we) (H:Ac w.heap.size we ([]++L)):Calls Tryz.prog 46 ([.agg ⟨[By m2,.slice h0 ds.length x]⟩]:List Value).toArray we fun e w'=>∃ (q1:Option Addr) (n1:Nat) (p1:Option Addr) (m1:Nat) (o1:Option Addr) (l1:Nat),e=.returned (.tuple #[.slice q1 ((((AX ds)).1).length) n1,.slice p1 ((((AX ds)).2.1).length) m1,.slice o1 ((((AX ds)).2.2).length) l1])∧Below w.heap.size w w'∧Ac w.heap.size w' ([Co w q1 n1 (((AX ds)).1),Co w p1 m1 (((AX ds)).2.1),Co w o1 l1 (((AX ds)).2.2)]++L):=by
 refine AR (fn:=Tryz.f46) (c:=lH) (n:=40) ?_
 have K1:Wk w we [] [] L:=⟨B,H⟩
 clear B H
 refine Aj MW K1 [(0,1)] fun w1 K2=>?_
 have K3:Wk w w1 [] [] L:=K2.pk [] []
 have K4:=K3.addNil 59 21 (FC Ca w)
 have K5:=K4.addNil 59 21 (FC Ca w)
 have K6:=K5.addNil 59 21 (FC Ca w)
 have z:(AX ds)=CN ds ([]) ([]) ([]):=by unfold AX; rfl
 refine AU [(2,.slice none 0 0),(3,.slice none 0 0),(4,.slice none 0 0),(8,.slice h0 ds.length x),(9,AI ((ds.length:Int))),(10,AI (((0:Nat):Int)))] fun E2=>?_
 refine Bd (by kernel_rfl) (fun E f1=>∃ (u:Nat) (m:List Df) (l:List Df) (j:List Df) (t:Option Addr) (s:Nat) (i:Option Addr) (f:Nat) (d:Option Addr) (b:Nat) (E0:Nat→Value),u≤ds.length∧E=BC E0 [(2,.slice t m.length s),(3,.slice i l.length f),(4,.slice d j.length b),(8,.slice h0 ds.length x),(9,AI ((ds.length:Int))),(10,AI ((u:Int)))]∧(AX ds)=CN (List.drop u ds) m l j∧m.length≤1 * u + 0∧l.length≤1 * u + 0∧j.length≤1 * u + 0∧Wk w f1 [] [(Co w t s m),(Co w i f l),(Co w d b j)] L) (fun E _=>ds.length - AK (E 10)) ⟨0,([]),([]),([]),none,0,none,0,none,0,E2,Nat.zero_le _,rfl,z,by simp,by simp,by simp,K6⟩ ?_
 clear z
 rintro E f1 ⟨u,m,l,j,t,s,i,f,d,b,E0,z4,rfl,z,q2,p2,o2,K7⟩ v
 refine AB cq K7 [] fun w4 K8=>?_
 refine AG (decide ((u:Int) < (ds.length:Int))) (fun c5=>?_) (fun c5=>?_)
 ·have y:u < ds.length:=by have:=of_decide_eq_true c5; omega
  obtain ⟨a,t1⟩:∃ e,ds[u]?=some e:=⟨_,List.getElem?_eq_getElem y⟩
  rw [P9 u a t1] at z
  obtain ⟨c0,d0,rfl,v1,x1⟩:=u1.all (by omega)
  obtain ⟨r,p,q,o,r1,b0,a0⟩:=x1 u _ t1
  refine Ae Aa xu K8 [] fun w6 K9=>?_
  refine Au (g:=c0) (off:=d0) (cap:=x) (sz:=21) (k:=u) (len:=ds.length) (some 12) y Tryz.underlying25 ?_
  refine BI 59 c0 (d0 + u * 21) [AI a.kind,By (a.name),.bool (a.tb),AI a.tm,AI a.th,AI a.td,AI a.frm,.slice r a.ents.length p,AI a.body.op,AI a.body.num,AI a.body.den,AI a.body.mu,AI a.body.hu,AI a.body.du,By (a.body.nm),AI a.body.cnt,AI a.body.md,.slice q a.body.ks.length o,AI a.mode,AI a.num,AI a.den] (some 13) (Ab r1 v1 K9.B) ?_
  refine Aj me K9 [(0,0),(0,0)] fun w7 d2=>?_
  refine AG (a.kind == 1) (fun c8=>?_) (fun c8=>?_)
  ·refine AB mc d2 [] fun w9 r3=>?_
   refine AG (a.kind == 1) (fun _=>?_) (fun h=>nomatch h.symm.trans c8)
   refine CA BS xt [⟨w6.heap.size,0,(Be a r p q o),59,true⟩,⟨w9.heap.size,0,(Be a r p q o),59,true⟩] r3 [(0,0)] fun x4 p0=>?_
   refine Cg p0.H (p0.ix 0) (p0.at 0 rfl) a [AI a.kind,By (a.name),.bool (a.tb),AI a.tm,AI a.th,AI a.td,AI a.frm,.slice r a.ents.length p,AI a.body.op,AI a.body.num,AI a.body.den,AI a.body.mu,AI a.body.hu,AI a.body.du,By (a.body.nm),AI a.body.cnt,AI a.body.md,.slice q a.body.ks.length o,AI a.mode,AI a.num,AI a.den] (I5 b0 a0) (w9.heap.size) (p0.ent 1 (by kernel_rfl)) (Br xt) (by kernel_rfl) (.tmp 20) (.tmp 22) 25 (by kernel_rfl) (by kernel_rfl) (by kernel_rfl) (by decide) (by kernel_rfl) (by kernel_rfl) rfl rfl (by ((try simp only [maxLen,List.length_append,List.length_cons,List.length_nil,List.length_singleton]) <;> omega)) fun e1 x0 v4 Hn v2=>?_
   have q3:=p0.put 0 (by simp) v2 Hn
   refine AB (AY MW) q3 [] fun l2 p3=>?_
   refine AU [(2,.slice e1 ((m++[a]).length) x0),(3,.slice i l.length f),(4,.slice d j.length b),(8,.slice (some ⟨c0,d0,none⟩) ds.length x),(9,AI ((ds.length:Int))),(10,AI (IntKind.i64.wrap ((u:Int) + 1)))] fun a4=>?_
   have o3:Wk w l2 [] [(Co w e1 x0 (m++[a])),(Co w i f l),(Co w d b j)] L:=p3.pk [] [0,1,2]
   rw [Bc u (by omega)]
   refine v _ _ ⟨u + 1,(m++[a]),l,j,e1,x0,i,f,d,b,a4,y,rfl,by rw [z,c8] <;> rfl,by ((try simp only [maxLen,List.length_append,List.length_cons,List.length_nil,List.length_singleton]) <;> omega),by ((try simp only [maxLen,List.length_append,List.length_cons,List.length_nil,List.length_singleton]) <;> omega),by ((try simp only [maxLen,List.length_append,List.length_cons,List.length_nil,List.length_singleton]) <;> omega),o3⟩ ?_
   show ds.length - AK (AI ((u + 1:Nat):Int)) < ds.length - AK (AI (u:Int))
   simp only [AK]
   omega
  ·refine AB ma d2 [] fun t4 c2=>?_
   refine AG (a.kind == 3) (fun g0=>?_) (fun g0=>?_)
   ·refine AB mZ c2 [] fun k1 n3=>?_
    refine AG (a.kind == 3) (fun _=>?_) (fun h=>nomatch h.symm.trans g0)
    refine CA BS xr [⟨w6.heap.size,0,(Be a r p q o),59,true⟩,⟨k1.heap.size,0,(Be a r p q o),59,true⟩] n3 [(0,0)] fun q4 n0=>?_
    refine Cg n0.H (n0.ix 0) (n0.at 0 rfl) a [AI a.kind,By (a.name),.bool (a.tb),AI a.tm,AI a.th,AI a.td,AI a.frm,.slice r a.ents.length p,AI a.body.op,AI a.body.num,AI a.body.den,AI a.body.mu,AI a.body.hu,AI a.body.du,By (a.body.nm),AI a.body.cnt,AI a.body.md,.slice q a.body.ks.length o,AI a.mode,AI a.num,AI a.den] (I5 b0 a0) (k1.heap.size) (n0.ent 1 (by kernel_rfl)) (Br xr) (by kernel_rfl) (.tmp 20) (.tmp 22) 25 (by kernel_rfl) (by kernel_rfl) (by kernel_rfl) (by decide) (by kernel_rfl) (by kernel_rfl) rfl rfl (by ((try simp only [maxLen,List.length_append,List.length_cons,List.length_nil,List.length_singleton]) <;> omega)) fun d1 w0 p4 Hn u2=>?_
    have m3:=n0.put 0 (by simp) u2 Hn
    refine AB (AY MW) m3 [] fun k2 l3=>?_
    refine AU [(2,.slice d1 ((m++[a]).length) w0),(3,.slice i l.length f),(4,.slice d j.length b),(8,.slice (some ⟨c0,d0,none⟩) ds.length x),(9,AI ((ds.length:Int))),(10,AI (IntKind.i64.wrap ((u:Int) + 1)))] fun z3=>?_
    have k3:Wk w k2 [] [(Co w d1 w0 (m++[a])),(Co w i f l),(Co w d b j)] L:=l3.pk [] [0,1,2]
    rw [Bc u (by omega)]
    refine v _ _ ⟨u + 1,(m++[a]),l,j,d1,w0,i,f,d,b,z3,y,rfl,by rw [z,c8,g0] <;> rfl,by ((try simp only [maxLen,List.length_append,List.length_cons,List.length_nil,List.length_singleton]) <;> omega),by ((try simp only [maxLen,List.length_append,List.length_cons,List.length_nil,List.length_singleton]) <;> omega),by ((try simp only [maxLen,List.length_append,List.length_cons,List.length_nil,List.length_singleton]) <;> omega),k3⟩ ?_
    show ds.length - AK (AI ((u + 1:Nat):Int)) < ds.length - AK (AI (u:Int))
    simp only [AK]
    omega
   ·refine AB co c2 [] fun i1 b2=>?_
    refine AG (a.kind == 4) (fun j0=>?_) (fun j0=>?_)
    ·refine CA BS sE [⟨w6.heap.size,0,(Be a r p q o),59,true⟩,⟨i1.heap.size,0,(Be a r p q o),59,true⟩] b2 [(0,0)] fun k4 m0=>?_
     refine Cg m0.H (m0.ix 0) (m0.at 0 rfl) a [AI a.kind,By (a.name),.bool (a.tb),AI a.tm,AI a.th,AI a.td,AI a.frm,.slice r a.ents.length p,AI a.body.op,AI a.body.num,AI a.body.den,AI a.body.mu,AI a.body.hu,AI a.body.du,By (a.body.nm),AI a.body.cnt,AI a.body.md,.slice q a.body.ks.length o,AI a.mode,AI a.num,AI a.den] (I5 b0 a0) (i1.heap.size) (m0.ent 1 (by kernel_rfl)) (Br sE) (by kernel_rfl) (.tmp 20) (.tmp 22) 25 (by kernel_rfl) (by kernel_rfl) (by kernel_rfl) (by decide) (by kernel_rfl) (by kernel_rfl) rfl rfl (by ((try simp only [maxLen,List.length_append,List.length_cons,List.length_nil,List.length_singleton]) <;> omega)) fun c1 v0 h4 Hn t2=>?_
     have i3:=m0.put 0 (by simp) t2 Hn
     refine AB (AY MW) i3 [] fun i2 h3=>?_
     refine AU [(2,.slice c1 ((m++[a]).length) v0),(3,.slice i l.length f),(4,.slice d j.length b),(8,.slice (some ⟨c0,d0,none⟩) ds.length x),(9,AI ((ds.length:Int))),(10,AI (IntKind.i64.wrap ((u:Int) + 1)))] fun x3=>?_
     have g3:Wk w i2 [] [(Co w c1 v0 (m++[a])),(Co w i f l),(Co w d b j)] L:=h3.pk [] [0,1,2]
     rw [Bc u (by omega)]
     refine v _ _ ⟨u + 1,(m++[a]),l,j,c1,v0,i,f,d,b,x3,y,rfl,by rw [z,c8,g0,j0] <;> rfl,by ((try simp only [maxLen,List.length_append,List.length_cons,List.length_nil,List.length_singleton]) <;> omega),by ((try simp only [maxLen,List.length_append,List.length_cons,List.length_nil,List.length_singleton]) <;> omega),by ((try simp only [maxLen,List.length_append,List.length_cons,List.length_nil,List.length_singleton]) <;> omega),g3⟩ ?_
     show ds.length - AK (AI ((u + 1:Nat):Int)) < ds.length - AK (AI (u:Int))
     simp only [AK]
     omega
    ·refine AB Sk b2 [] fun h1 a2=>?_
     refine AG (a.kind == 2) (fun q0=>?_) (fun q0=>?_)
     ·refine CA BS sD [⟨w6.heap.size,0,(Be a r p q o),59,true⟩,⟨h1.heap.size,0,(Be a r p q o),59,true⟩] a2 [(0,0)] fun g4 l0=>?_
      refine Cg l0.H (l0.ix 1) (l0.at 1 rfl) a [AI a.kind,By (a.name),.bool (a.tb),AI a.tm,AI a.th,AI a.td,AI a.frm,.slice r a.ents.length p,AI a.body.op,AI a.body.num,AI a.body.den,AI a.body.mu,AI a.body.hu,AI a.body.du,By (a.body.nm),AI a.body.cnt,AI a.body.md,.slice q a.body.ks.length o,AI a.mode,AI a.num,AI a.den] (I5 b0 a0) (h1.heap.size) (l0.ent 1 (by kernel_rfl)) (Br sD) (by kernel_rfl) (.tmp 26) (.tmp 28) 25 (by kernel_rfl) (by kernel_rfl) (by kernel_rfl) (by decide) (by kernel_rfl) (by kernel_rfl) rfl rfl (by ((try simp only [maxLen,List.length_append,List.length_cons,List.length_nil,List.length_singleton]) <;> omega)) fun b1 t0 f4 Hn s2=>?_
      have f3:=l0.put 1 (by simp) s2 Hn
      refine AB (AY MW) f3 [] fun h2 e3=>?_
      refine AU [(2,.slice t m.length s),(3,.slice b1 ((l++[a]).length) t0),(4,.slice d j.length b),(8,.slice (some ⟨c0,d0,none⟩) ds.length x),(9,AI ((ds.length:Int))),(10,AI (IntKind.i64.wrap ((u:Int) + 1)))] fun w3=>?_
      have c3:Wk w h2 [] [(Co w t s m),(Co w b1 t0 (l++[a])),(Co w d b j)] L:=e3.pk [] [0,1,2]
      rw [Bc u (by omega)]
      refine v _ _ ⟨u + 1,m,(l++[a]),j,t,s,b1,t0,d,b,w3,y,rfl,by rw [z,c8,g0,j0,q0] <;> rfl,by ((try simp only [maxLen,List.length_append,List.length_cons,List.length_nil,List.length_singleton]) <;> omega),by ((try simp only [maxLen,List.length_append,List.length_cons,List.length_nil,List.length_singleton]) <;> omega),by ((try simp only [maxLen,List.length_append,List.length_cons,List.length_nil,List.length_singleton]) <;> omega),c3⟩ ?_
      show ds.length - AK (AI ((u + 1:Nat):Int)) < ds.length - AK (AI (u:Int))
      simp only [AK]
      omega
     ·refine AB cp a2 [] fun g1 z1=>?_
      refine AG (a.kind == 5) (fun s0=>?_) (fun s0=>?_)
      ·refine CA BS sC [⟨w6.heap.size,0,(Be a r p q o),59,true⟩,⟨g1.heap.size,0,(Be a r p q o),59,true⟩] z1 [(0,0)] fun e4 k0=>?_
       refine Cg k0.H (k0.ix 2) (k0.at 2 rfl) a [AI a.kind,By (a.name),.bool (a.tb),AI a.tm,AI a.th,AI a.td,AI a.frm,.slice r a.ents.length p,AI a.body.op,AI a.body.num,AI a.body.den,AI a.body.mu,AI a.body.hu,AI a.body.du,By (a.body.nm),AI a.body.cnt,AI a.body.md,.slice q a.body.ks.length o,AI a.mode,AI a.num,AI a.den] (I5 b0 a0) (g1.heap.size) (k0.ent 1 (by kernel_rfl)) (Br sC) (by kernel_rfl) (.tmp 32) (.tmp 34) 25 (by kernel_rfl) (by kernel_rfl) (by kernel_rfl) (by decide) (by kernel_rfl) (by kernel_rfl) rfl rfl (by ((try simp only [maxLen,List.length_append,List.length_cons,List.length_nil,List.length_singleton]) <;> omega)) fun a1 r0 c4 Hn r2=>?_
       have b3:=k0.put 2 (by simp) r2 Hn
       refine AB (AY MW) b3 [] fun g2 a3=>?_
       refine AU [(2,.slice t m.length s),(3,.slice i l.length f),(4,.slice a1 ((j++[a]).length) r0),(8,.slice (some ⟨c0,d0,none⟩) ds.length x),(9,AI ((ds.length:Int))),(10,AI (IntKind.i64.wrap ((u:Int) + 1)))] fun v3=>?_
       have z2:Wk w g2 [] [(Co w t s m),(Co w i f l),(Co w a1 r0 (j++[a]))] L:=a3.pk [] [0,1,2]
       rw [Bc u (by omega)]
       refine v _ _ ⟨u + 1,m,l,(j++[a]),t,s,i,f,a1,r0,v3,y,rfl,by rw [z,c8,g0,j0,q0,s0] <;> rfl,by ((try simp only [maxLen,List.length_append,List.length_cons,List.length_nil,List.length_singleton]) <;> omega),by ((try simp only [maxLen,List.length_append,List.length_cons,List.length_nil,List.length_singleton]) <;> omega),by ((try simp only [maxLen,List.length_append,List.length_cons,List.length_nil,List.length_singleton]) <;> omega),z2⟩ ?_
       show ds.length - AK (AI ((u + 1:Nat):Int)) < ds.length - AK (AI (u:Int))
       simp only [AK]
       omega
      ·refine AB (AY MW) z1 [] fun e2 x2=>?_
       refine AU [(2,.slice t m.length s),(3,.slice i l.length f),(4,.slice d j.length b),(8,.slice (some ⟨c0,d0,none⟩) ds.length x),(9,AI ((ds.length:Int))),(10,AI (IntKind.i64.wrap ((u:Int) + 1)))] fun t3=>?_
       have w2:Wk w e2 [] [(Co w t s m),(Co w i f l),(Co w d b j)] L:=x2.pk [] [0,1,2]
       rw [Bc u (by omega)]
       refine v _ _ ⟨u + 1,m,l,j,t,s,i,f,d,b,t3,y,rfl,by rw [z,c8,g0,j0,q0,s0] <;> rfl,by ((try simp only [maxLen,List.length_append,List.length_cons,List.length_nil,List.length_singleton]) <;> omega),by ((try simp only [maxLen,List.length_append,List.length_cons,List.length_nil,List.length_singleton]) <;> omega),by ((try simp only [maxLen,List.length_append,List.length_cons,List.length_nil,List.length_singleton]) <;> omega),w2⟩ ?_
       show ds.length - AK (AI ((u + 1:Nat):Int)) < ds.length - AK (AI (u:Int))
       simp only [AK]
       omega
 ·have s1:u=ds.length:=by have:=of_decide_eq_false c5; omega
  rw [s1,List.drop_length,Qr] at z
  refine AB ABy K8 [] fun b4 z0=>?_
  have hS:(AX ds)=(m,l,j):=by rw [z] <;> rfl
  exact AJ z0 (0,0) (.tuple #[.slice t m.length s,.slice i l.length f,.slice d j.length b]) ⟨t,s,i,f,d,b,by rw [hS] <;> rfl,z0.B,by rw [hS]; exact z0.own [0,1,2] rfl (by decide)⟩
end
end Go.Proofs.YtkjbdagicjbjjaaGreat
namespace Go.Proofs.YtkjbdagicjbjjaaGreat
open Go.RowKit
set_option maxRecDepth 100000
set_option maxHeartbeats 600000
theorem nZ {P:Program} {o:Oper} {ρ:Operand→Value} {w:World} {t e:TypeId} {x h:Operand} {g off len cap i:Nat} (hop:o.op=.slice t x none (some h) none) (hu:P.underlying t=some (.slice e)) (hs:JO P e≠none) (hx:ρ x=.slice (some ⟨g,off,none⟩) len cap) (c:ρ h=AI (i:Nat)) (hi:i≤cap):(execOp ρ o).run P w=.ok (.value (.slice (some ⟨g,off,none⟩) i cap)) w:=by
 obtain ⟨sz,b⟩:=Option.ne_none_iff_exists'.1 hs
 have d:¬ (cap:Int) < (i:Int):=by omega
 have a:(⟨g,off,none⟩:Addr).add 0=⟨g,off,none⟩:=rfl
 simp [execOp,hop,hx,c,Instr.sliceAt,Instr.slice,run_underlying hu,Gs b,Instr.sliceBounds,Instr.sliceBound,asIntOf,hi,d,a]
theorem GH {w:World} {e:Az} (h:e.good w):w.rangeAt e.id e.off e.cells:=fun _ _ hv=>EH h hv rfl rfl rfl
theorem Rh {w:World}:∀ {ds:List Df} {rs:List (List Value)} (i:Nat),Ev Ca w ds rs→Ev Ca w (ds.take i) (rs.take i)
 | ds,rs,0,_=>by rw [List.take_zero,List.take_zero]; unfold Ev; rfl
 | [],rs,i + 1,h=>by unfold Ev at h; subst h; rw [List.take_nil,List.take_nil]; unfold Ev; rfl
 | d :: ds,rs,i + 1,h=>by
  unfold Ev at h
  obtain ⟨c,b,rfl,a,h2⟩:=h
  rw [List.take_succ_cons,List.take_succ_cons]
  unfold Ev
  exact ⟨c,_,rfl,a,Rh i h2⟩
theorem Pb {w:World} {n:Nat} {A:Option Addr} {rs:List (List Value)} (h:DI Ca w n A rs) (i:Nat):DI Ca w n A (rs.take i):=by
 rcases h with h | ⟨g,off,rfl,h2,hg,hc⟩
 ·subst h; rw [List.take_nil]; exact .inl rfl
 ·refine .inr ⟨g,off,rfl,h2,hg,fun j r a=>hc j r ?_⟩
  rw [List.getElem?_take] at a
  split at a
  ·exact a
  ·cases a
theorem rowsDf.take {w:World} {A:Option Addr} {ds:List Df} (h:rowsDf w A ds) (i:Nat):rowsDf w A (ds.take i):=
 let ⟨_,h1,h2⟩:=h
 ⟨_,Rh i h1,Pb h2 i⟩
end Go.Proofs.YtkjbdagicjbjjaaGreat
namespace Go.Proofs.YtkjbdagicjbjjaaGreat
open Go.RowKit
set_option maxRecDepth 100000
abbrev BP (e:Int×Int):List Value:=[AI e.1,AI e.2]
abbrev NL:=CU 2 BP
abbrev DQ:=List UInt8×Int×Int
abbrev F4 (e:DQ):List Value:=[By (e.1),AI e.2.1,AI e.2.2]
abbrev tM:=CU 3 F4
abbrev Dn:=List UInt8×List (Int×Int)
def eP (A:Option Addr) (n c:Nat):Prop:=n≤c∧∀ a,A=some a→a.spot=none
def EE (w:World) (A:Option Addr) (l:List Dn):Prop:=∃ rs,EF (fun e r=>∃ A c,r=[By (e.1),.slice A e.2.length c]∧eP A e.2.length c∧NL w A e.2) l rs∧DI Ca w 2 A rs
theorem N5 {α:Type} {a:α→List Value→Prop}:∀ {l:List α} {rs:List (List Value)} {i:Nat} {e:α},EF a l rs→l[i]?=some e→∃ r,rs[i]?=some r∧a e r
 | [],_,_,_,_,h=>by simp at h
 | _ :: _,[],_,_,h,_=>h.elim
 | _ :: _,r :: _,0,_,h,hi=>⟨r,rfl,by simp at hi; exact hi ▸ h.1⟩
 | _ :: _,_ :: _,i + 1,_,h,hi=>by
  obtain ⟨r,b,h2⟩:=N5 (i:=i) h.2 (by simpa using hi)
  exact ⟨r,by simpa using b,h2⟩
theorem MY {α:Type} {b a:α→List Value→Prop}:∀ {l:List α} {rs:List (List Value)},(∀ e r,e∈l→b e r→a e r)→EF b l rs→EF a l rs
 | [],[],_,_=>trivial
 | [],_ :: _,_,h=>h.elim
 | _ :: _,[],_,h=>h.elim
 | _ :: _,_ :: _,hm,h=>⟨hm _ _ (by simp) h.1,MY (fun e r he=>hm e r (by simp [he])) h.2⟩
theorem EE.below {w w':World} {A:Option Addr} {l:List Dn} (h:EE w A l) (B:Below w.heap.size w w'):EE w' A l:=by
 obtain ⟨rs,a,h2⟩:=h
 exact ⟨rs,MY (fun e r _ ⟨A,c,hr,hc,he⟩=>⟨A,c,hr,hc,CU.below he B⟩) a,DI.below h2 B⟩
theorem EE.all {w:World} {A:Option Addr} {l:List Dn} (h:EE w A l) (a:0 < l.length):∃ g off,A=some ⟨g,off,none⟩∧g < w.heap.size∧∀ (i:Nat) e,l[i]?=some e→∃ b c,w.rangeAt g (off + i * 2) [By (e.1),.slice b e.2.length c]∧eP b e.2.length c∧NL w b e.2:=by
 obtain ⟨rs,d,h2⟩:=h
 rcases h2 with h2 | ⟨g,off,rfl,_,hg,hc⟩
 ·rw [← FO d,h2] at a
  exact absurd a (Nat.lt_irrefl _)
 ·refine ⟨g,off,rfl,hg,fun i e hi=>?_⟩
  obtain ⟨r,hr,b,c,rfl,hl,hx⟩:=N5 d hi
  exact ⟨b,c,fun j u hu=>hc i _ hr j u hu,hl,hx⟩
end Go.Proofs.YtkjbdagicjbjjaaGreat
namespace Go.Proofs.YtkjbdagicjbjjaaGreat
noncomputable section
open Go.RowKit
set_option maxRecDepth 100000
set_option maxHeartbeats 1000000
attribute [local irreducible] A8 BL AC AD AF Ao AY AL Aq Bb Cn BR BK At Fr
def Vv (p0:Int):Int×Int:=(p0,1)
def j5 (r:Int×Int):Value:=.agg ⟨[AI (r.1),AI (r.2)]⟩
noncomputable def Xp:Code:=Tryz.f119.body.getD .skip
def zV:=AA 60 ([.code Xp])
theorem Km (a:Int) (w:World):Calls Tryz.prog 119 ([AI a]:List Value).toArray w fun e w'=>e=.returned (j5 (Vv a))∧Below w.heap.size w w':=by
 refine AR (fn:=Tryz.f119) (c:=Xp) (n:=5) ?_
 have d:=Wk.start w
 refine Aj zV d [(0,0)] fun f b=>?_
 exact AP b (0,0) (.agg ⟨[AI a,AI 1]⟩) (by unfold Vv; rfl)
def DE (p0:Bool):Int×Int:=cond (p0) ((1,1)) ((0,1))
def LD (r:Int×Int):Value:=.agg ⟨[AI (r.1),AI (r.2)]⟩
noncomputable def Xl:Code:=Tryz.f59.body.getD .skip
def Yw:=AA 60 ([.code Xl])
def zP:=AA 60 (AD Yw)
def zO:=AA 60 (AF Yw)
theorem Gq (a:Bool) (w:World):Calls Tryz.prog 59 ([.bool a]:List Value).toArray w fun e w'=>e=.returned (LD (DE a))∧Below w.heap.size w w':=by
 refine AR (fn:=Tryz.f59) (c:=Xl) (n:=6) ?_
 have h:=Wk.start w
 refine Aj Yw h [] fun k d=>?_
 refine AG (a) (fun b=>?_) (fun b=>?_)
 ·refine Aj zP d [(0,0)] fun j g=>?_
  exact AP g (0,0) (.agg ⟨[AI 1,AI 1]⟩) (by unfold DE; rw [b] <;> rfl)
 ·refine Aj zO d [(0,0)] fun i f=>?_
  exact AP f (0,0) (.agg ⟨[AI 0,AI 1]⟩) (by unfold DE; rw [b] <;> rfl)
end
end Go.Proofs.YtkjbdagicjbjjaaGreat
namespace Go.Proofs.YtkjbdagicjbjjaaGreat
noncomputable section
open Go.RowKit
set_option maxRecDepth 100000
set_option maxHeartbeats 1000000
attribute [local irreducible] A8 BL AC AD AF Ao AY AL Aq Bb Cn BR BK At Fr
def DY (nm:List UInt8):List Dn→List (Int×Int)×Bool
 | []=>([],false)
 | e :: tl=>cond (decide (e.1=nm)) (e.2,true) (DY nm tl)
theorem W4 {nm:List UInt8} {l:List Dn} (i:Nat) (e:Dn) (hi:l[i]?=some e):DY nm (l.drop i)=cond (decide (e.1=nm)) (e.2,true) (DY nm (l.drop (i + 1))):=by
 have hl:i < l.length:=(List.getElem?_eq_some_iff.1 hi).1
 have he:l[i]=e:=(List.getElem?_eq_some_iff.1 hi).2
 rw [← List.getElem_cons_drop hl,DY,he]
noncomputable def Xq:Code:=Tryz.f144.body.getD .skip
def Y5:=AA 60 [.code Xq]
def SF:=AA 60 (Ao Y5)
def oO:=AA (Ak Aa 90 (AD SF)) (AD SF)
def oN:=Ai 4 (AC (AC oO))
def oM:=AA 60 (AL oN)
def zX:=AA 60 (AD oM)
def zW:=AA 60 (AF SF)
theorem P8 (A:Option Addr) (c:Nat) (l:List Dn) (nm:List UInt8) (w o:World) (h:EE w A l) (hl:l.length≤4294967296) (B:Below w.heap.size w o):Calls Tryz.prog 144 ([.slice A l.length c,By nm]:List Value).toArray o fun e w'=>∃ A' c',e=.returned (.tuple #[.slice A' (DY nm l).1.length c',.bool (DY nm l).2])∧eP A' (DY nm l).1.length c'∧NL w A' (DY nm l).1∧Below o.heap.size o w':=by
 refine AR (args:=[.slice A l.length c,By nm]) (fn:=Tryz.f144) (c:=Xq) (n:=21) ?_
 have K1:=Wk.start o
 refine AB Y5 K1 [] fun w1 K2=>?_
 refine AU [(1,By nm),(8,.slice A l.length c),(9,AI (l.length:Int)),(10,AI ((0:Nat):Int))] fun E2=>?_
 refine Bd (by kernel_rfl) (fun E wx=>∃ (i:Nat) (E0:Nat→Value),i≤l.length∧E=BC E0 [(1,By nm),(8,.slice A l.length c),(9,AI (l.length:Int)),(10,AI (i:Int))]∧DY nm l=DY nm (l.drop i)∧Wk o wx [] [] []) (fun E _=>l.length - AK (E 10)) ⟨0,E2,Nat.zero_le _,rfl,rfl,K2⟩ ?_
 rintro E wx ⟨i,E0,hi,rfl,hv,K3⟩ m
 refine AB SF K3 [] fun w4 K4=>?_
 refine AG (decide ((i:Int) < (l.length:Int))) (fun c5=>?_) (fun c5=>?_)
 ·have d:i < l.length:=by have:=of_decide_eq_true c5; omega
  obtain ⟨e,he⟩:∃ e,l[i]?=some e:=⟨_,List.getElem?_eq_getElem d⟩
  rw [W4 i e he] at hv
  obtain ⟨g,f,rfl,hg,ha⟩:=h.all (by omega)
  obtain ⟨r,q,hr,v,hx⟩:=ha i _ he
  refine Ae Aa oO K4 [] fun w6 p=>?_
  refine Au (g:=g) (off:=f) (cap:=c) (sz:=2) (k:=i) (len:=l.length) (some 12) d Tryz.underlying35 ?_
  refine BI 90 g (f + i * 2) [By (e.1),.slice r e.2.length q] (some 13) (Ab hr hg (B.trans (p.B.mono B.size))) ?_
  refine Bp 4 oN [⟨w6.heap.size,0,[By (e.1),.slice r e.2.length q],90,true⟩] p [(0,0)] fun w7 K7=>?_
  refine Ap K7 [(1,0,0)] [⟨3,[(15,By (e.1)),(16,By nm)],.bool (decide (e.1=nm)),true⟩] K7.G (fun sp t=>?_) fun w8 E8 K8=>?_
  ·rw [List.mem_singleton.1 t]
   exact BG fun _ E u _=>Gw (T:=9) (T':=9) (x:=.tmp 15) (y:=.tmp 16)
  refine AB oM K8 [] fun w9 K9=>?_
  refine AG (decide (e.1=nm)) (fun j=>?_) (fun j=>?_)
  ·refine AB zX K9 [(0,1)] fun s b=>?_
   have hS:DY nm l=(e.2,true):=by rw [hv,j]; rfl
   refine AJ b (0,0) (.tuple #[.slice r e.2.length q,.bool true]) ?_
   rw [hS]
   exact ⟨r,q,rfl,v,hx,b.B⟩
  ·refine AB (AY Y5) K9 [] fun s b=>?_
   refine AU [(1,By nm),(8,.slice (some ⟨g,f,none⟩) l.length c),(9,AI (l.length:Int)),(10,AI (IntKind.i64.wrap ((i:Int) + 1)))] fun a0=>?_
   rw [Bc i (by omega)]
   refine m _ _ ⟨i + 1,a0,d,rfl,by rw [hv,j]; rfl,b.pk [] []⟩ ?_
   show l.length - AK (AI ((i + 1:Nat):Int)) < l.length - AK (AI (i:Int))
   simp only [AK]
   omega
 ·have z:i=l.length:=by have:=of_decide_eq_false c5; omega
  rw [z,List.drop_length,DY] at hv
  refine AB zW K4 [] fun w6 p=>?_
  refine AJ p (0,0) (.tuple #[.slice none 0 0,.bool false]) ?_
  rw [hv]
  exact ⟨none,0,rfl,⟨Nat.le_refl _,fun a ha=>by cases ha⟩,.inl rfl,p.B⟩
theorem Rf {P:Program} {o:Oper} {ρ:Operand→Value} {w:World} {t e:TypeId} {x:Operand} {a:Option Addr} {len cap sz:Nat} (hop:o.op=.slice t x (some (.const (AI 1))) none none) (ht:P.underlying t=some (.slice e)) (hx:ρ x=.slice a len cap) (hc:ρ (.const (AI 1))=AI 1) (d:1≤len) (hs:(P.info? e).map (·.size)=some sz):(execOp ρ o).run P w=.ok (.value (sliced a 1 len cap sz)) w:=by
 have he:P.underlying t=some (.slice (P.elem t)):=by simp [Program.elem,ht]
 have c:P.elem t=e:=by simp [Program.elem,ht]
 have hl:=run_slice_l (P:=P) (w:=w) t a len cap he .i64 1 (by omega) (by omega)
 have b:(sizeOf (P.elem t)).run P w=.ok sz w:=by
  rw [c]
  cases hq:P.info? e with
  | none=>rw [hq] at hs; cases hs
  | some inf=>
   have b:inf.size=sz:=by rw [hq] at hs; exact Option.some.inj hs
   simp [sizeOf,typeInfo,hq,b]
 rw [b] at hl
 simp [execOp,hop,hx,hc,run_sliceAt_slice,he,hl]
def Io (n:Nat):List (Int×Int)→Int×Int→Int×Int×Int
 | [],s=>Kx s.1 s.2 (n:Int) 1
 | e :: tl,s=>cond (!((Ez s.1 s.2 e.1 e.2).2.2 == 0)) (0,0,(Ez s.1 s.2 e.1 e.2).2.2) (Io n tl ((Ez s.1 s.2 e.1 e.2).1,(Ez s.1 s.2 e.1 e.2).2.1))
theorem dZ {n:Nat} {l:List (Int×Int)} {s:Int×Int} (i:Nat) (e:Int×Int) (hi:l[i]?=some e):Io n (l.drop i) s=cond (!((Ez s.1 s.2 e.1 e.2).2.2 == 0)) (0,0,(Ez s.1 s.2 e.1 e.2).2.2) (Io n (l.drop (i + 1)) ((Ez s.1 s.2 e.1 e.2).1,(Ez s.1 s.2 e.1 e.2).2.1)):=by
 have hl:i < l.length:=(List.getElem?_eq_some_iff.1 hi).1
 have he:l[i]=e:=(List.getElem?_eq_some_iff.1 hi).2
 rw [← List.getElem_cons_drop hl,Io,he]
def da (n:Nat):List (Int×Int)→Int×Int×Int
 | []=>(0,0,16)
 | x :: tl=>Io n tl x
def Pt (l:List (Int×Int)):Int×Int×Int:=cond (decide (120 < (l.length:Int))) (0,0,3) (cond (l.any fun e=>!(Ad e.1 e.2)) (0,0,1) (da l.length l))
def I2:Op→Bool
 | .slice _ _ _ _ _=>true
 | _=>false
noncomputable def Xn:Code:=Tryz.f145.body.getD .skip
def Y1:=AA 60 [.code Xn]
def zS:=AA 60 (AD Y1)
def Y0:=AA 60 (AF Y1)
def SD:=AA 60 (Ao Y0)
def oH:=AA (Ak Aa 90 (AD SD)) (AD SD)
def oG:=AA 60 (AC (AC oH))
def oF:=AA 60 (AC oG)
def zR:=AA 60 (AD oF)
def SC:=AA 60 (AF SD)
def zQ:=AA 60 (AD SC)
def S9:=AA (Ak Aa 90 (AF SC)) (AF SC)
def ej:=AA (Ak I2 90 (AC (AC S9))) (AC (AC S9))
def S8:=AA 60 (AC ej)
def On:=AA 60 (Ao S8)
def ei:=AA (Ak Aa 90 (AD On)) (AD On)
def eh:=AA 60 (AC (AC ei))
def eg:=AA 60 (AC eh)
def uC:=AA 60 (AD eg)
def ef:=Ai 20 (AF On)
def uB:=AA 60 (AL ef)
theorem j2 (A:Option Addr) (c:Nat) (l:List (Int×Int)) (w:World) (h:NL w A l) (hl:l.length≤4294967296) (m0:l.length≤c):Calls Tryz.prog 145 ([.slice A l.length c]:List Value).toArray w fun e w'=>e=.returned (DB (Pt l))∧Below w.heap.size w w':=by
 refine AR (args:=[.slice A l.length c]) (fn:=Tryz.f145) (c:=Xn) (n:=59) ?_
 have K1:=Wk.start w
 refine Af Y1 [⟨w.heap.size,0,[AI 0,AI 0],41,true⟩] K1 [] fun w1 K2=>?_
 unfold Pt
 refine AG (decide (120 < (l.length:Int))) (fun c1=>?_) (fun c1=>?_)
 ·refine AB zS K2 [(0,0)] fun w2 K3=>?_
  exact AJ K3 (0,0) (.tuple #[.agg ⟨[AI 0,AI 0]⟩,AI 3]) ⟨by rw [c1]; rfl,K3.B⟩
 rw [c1]
 refine AB Y0 K2 [] fun w2 K3=>?_
 refine AU [(0,.slice A l.length c),(2,BY (w.heap.size)),(15,.slice A l.length c),(16,AI (l.length:Int)),(17,AI ((0:Nat):Int))] fun E3=>?_
 refine Bd (by kernel_rfl) (fun E wx=>∃ (i:Nat) (E0:Nat→Value),i≤l.length∧E=BC E0 [(0,.slice A l.length c),(2,BY (w.heap.size)),(15,.slice A l.length c),(16,AI (l.length:Int)),(17,AI (i:Int))]∧(∀ (k:Nat) (e:Int×Int),k < i→l[k]?=some e→Ad e.1 e.2=true)∧Wk w wx [⟨w.heap.size,0,[AI 0,AI 0],41,true⟩] [] []) (fun E _=>l.length - AK (E 17)) ⟨0,E3,Nat.zero_le _,rfl,fun k e hk=>absurd hk (Nat.not_lt_zero _),K3⟩ ?_
 clear K2 K3
 rintro E wx ⟨i,E0,hi,rfl,hv,K3⟩ b
 refine AB SD K3 [] fun w4 K4=>?_
 refine AG (decide ((i:Int) < (l.length:Int))) (fun c5=>?_) (fun c5=>?_)
 ·have d:i < l.length:=by have:=of_decide_eq_true c5; omega
  obtain ⟨e,he⟩:∃ e,l[i]?=some e:=⟨_,List.getElem?_eq_getElem d⟩
  obtain ⟨g,f,rfl,hg,ha⟩:=h.all (by omega)
  have hr:=ha i _ he
  refine Ae Aa oH K4 [] fun w6 v=>?_
  refine Au (g:=g) (off:=f) (cap:=c) (sz:=2) (k:=i) (len:=l.length) (some 19) d Tryz.underlying67 ?_
  refine BI 41 g (f + i * 2) (BP e) (some 20) (Ab hr hg v.B) ?_
  refine Af oG [⟨w.heap.size,0,[AI 0,AI 0],41,true⟩,⟨w6.heap.size,0,BP e,41,true⟩] v [(1,0),(1,0)] fun w7 K7=>?_
  refine AQ K7 (args:=[.agg ⟨[AI e.1,AI e.2]⟩]) (Bh e.1 e.2 w7) fun w8 K8=>?_
  refine AB oF K8 [] fun w9 K9=>?_
  refine AG (!(Ad e.1 e.2)) (fun j=>?_) (fun j=>?_)
  ·refine AB zR K9 [(0,0)] fun p m=>?_
   have c0:(l.any fun e=>!(Ad e.1 e.2))=true:=List.any_eq_true.2 ⟨e,List.mem_of_getElem? he,j⟩
   exact AJ m (0,0) (.tuple #[.agg ⟨[AI 0,AI 0]⟩,AI 1]) ⟨by rw [c0]; rfl,m.B⟩
  ·refine AB (AY Y0) K9 [] fun p m=>?_
   refine AU [(0,.slice (some ⟨g,f,none⟩) l.length c),(2,BY (w.heap.size)),(15,.slice (some ⟨g,f,none⟩) l.length c),(16,AI (l.length:Int)),(17,AI (IntKind.i64.wrap ((i:Int) + 1)))] fun q0=>?_
   rw [Bc i (by omega)]
   refine b _ _ ⟨i + 1,q0,d,rfl,fun k x hk hx=>?_,m.pk [0] []⟩ ?_
   ·by_cases hki:k=i
    ·subst hki
     obtain rfl:=Option.some.inj (he.symm.trans hx)
     simpa using j
    ·exact hv k x (by omega) hx
   ·show l.length - AK (AI ((i + 1:Nat):Int)) < l.length - AK (AI (i:Int))
    simp only [AK]
    omega
 have g0:i=l.length:=by have:=of_decide_eq_false c5; omega
 have c0:(l.any fun e=>!(Ad e.1 e.2))=false:=by
  rw [List.any_eq_false]
  intro e he
  obtain ⟨k,hk⟩:=List.mem_iff_getElem?.1 he
  rw [hv k e (by have:=(List.getElem?_eq_some_iff.1 hk).1; omega) hk]
  decide
 rw [c0]
 clear b hv c1
 refine AB SC K4 [] fun w5 K5=>?_
 refine AG ((l.length:Int) == 0) (fun c2=>?_) (fun c2=>?_)
 ·obtain rfl:l=[]:=by
   have:(l.length:Int)=0:=by simpa using c2
   exact List.length_eq_zero_iff.1 (by omega)
  refine AB zQ K5 [(0,0)] fun w6 v=>?_
  exact AJ v (0,0) (.tuple #[.agg ⟨[AI 0,AI 0]⟩,AI 16]) ⟨rfl,v.B⟩
 cases l with
 | nil=>cases c2
 | cons x tl=>
  obtain ⟨g,f,rfl,hg,ha⟩:=h.all (Nat.succ_pos _)
  refine Ae Aa S9 K5 [] fun w6 v=>?_
  refine Au (g:=g) (off:=f) (cap:=c) (sz:=2) (k:=0) (len:=(x :: tl).length) (some 31) (Nat.succ_pos _) Tryz.underlying67 ?_
  refine BI 41 g (f + 0 * 2) (BP x) (some 32) (Ab (ha 0 x rfl) hg v.B) ?_
  refine CA I2 ej [⟨w.heap.size,0,[AI 0,AI 0],41,true⟩,⟨w6.heap.size,0,BP x,41,true⟩] v [(1,0)] fun w7 K7=>?_
  refine C4 (Rf (t:=67) (x:=.tmp 33) (a:=some ⟨g,f,none⟩) (len:=(x :: tl).length) (cap:=c) (sz:=2) (by kernel_rfl) Tryz.underlying67 (by kernel_rfl) (by kernel_rfl) (Nat.succ_le_succ (Nat.zero_le _)) (by kernel_rfl)) ?_
  obtain ⟨A2,o,n0,k0⟩:∃ A2 o,(0 < tl.length→A2=some ⟨g,f + 2,none⟩)∧sliced (some ⟨g,f,none⟩) 1 (x :: tl).length c 2=.slice A2 tl.length o:=by
   refine ⟨_,_,fun hp=>?_,rfl⟩
   rw [if_neg (by simp at m0; omega)]
   rfl
  rw [k0]
  refine AB S8 K7 [] fun w8 K8=>?_
  have l0:da (x :: tl).length (x :: tl)=Io (tl.length + 1) tl x:=rfl
  rw [l0]
  have S7:=v.B
  generalize hid:w6.heap.size=q at K8
  refine AU [(0,.slice (some ⟨g,f,none⟩) (tl.length + 1) c),(2,BY (w.heap.size)),(6,BY (w6.heap.size)),(34,.slice A2 tl.length o),(35,AI (tl.length:Int)),(36,AI ((0:Nat):Int))] fun E8=>?_
  rw [hid]
  refine Bd (by kernel_rfl) (fun E wx=>∃ (i:Nat) (s:Int×Int) (E0:Nat→Value),i≤tl.length∧E=BC E0 [(0,.slice (some ⟨g,f,none⟩) (tl.length + 1) c),(2,BY (w.heap.size)),(6,BY q),(34,.slice A2 tl.length o),(35,AI (tl.length:Int)),(36,AI (i:Int))]∧Io (tl.length + 1) tl x=Io (tl.length + 1) (tl.drop i) s∧Wk w wx [⟨w.heap.size,0,[AI 0,AI 0],41,true⟩,⟨q,0,BP s,41,true⟩] [] []) (fun E _=>tl.length - AK (E 36)) ⟨0,x,E8,Nat.zero_le _,rfl,rfl,K8⟩ ?_
  clear K8
  rintro E wx ⟨i,s,E0,hi,rfl,hv,K9⟩ b
  refine AB On K9 [] fun w9 m=>?_
  refine AG (decide ((i:Int) < (tl.length:Int))) (fun c5=>?_) (fun c5=>?_)
  ·have d:i < tl.length:=by have:=of_decide_eq_true c5; omega
   obtain ⟨e,he⟩:∃ e,tl[i]?=some e:=⟨_,List.getElem?_eq_getElem d⟩
   rw [dZ i e he] at hv
   obtain rfl:=n0 (by omega)
   have hr:=ha (i + 1) e (by simpa using he)
   rw [show f + (i + 1) * 2=f + 2 + i * 2 by omega] at hr
   refine Ae Aa ei m [] fun p r=>?_
   refine Au (g:=g) (off:=f + 2) (cap:=o) (sz:=2) (k:=i) (len:=tl.length) (some 38) d Tryz.underlying67 ?_
   refine BI 41 g (f + 2 + i * 2) (BP e) (some 39) (Ab hr hg r.B) ?_
   refine Af eh [⟨w.heap.size,0,[AI 0,AI 0],41,true⟩,⟨q,0,BP s,41,true⟩,⟨p.heap.size,0,BP e,41,true⟩] r [(2,0),(1,0),(2,0)] fun e0 d0=>?_
   refine AQ d0 (args:=[.agg ⟨[AI s.1,AI s.2]⟩,.agg ⟨[AI e.1,AI e.2]⟩]) (Wb s.1 s.2 e.1 e.2 e0) fun a0 z=>?_
   refine Af eg [⟨w.heap.size,0,[AI 0,AI 0],41,true⟩,⟨q,0,BP s,41,true⟩,⟨p.heap.size,0,BP e,41,true⟩,⟨a0.heap.size,0,[AI (Ez s.1 s.2 e.1 e.2).1,AI (Ez s.1 s.2 e.1 e.2).2.1],41,true⟩] z [(3,0)] fun j0 h0=>?_
   refine AG (!((Ez s.1 s.2 e.1 e.2).2.2 == 0)) (fun j=>?_) (fun j=>?_)
   ·refine AB uC h0 [(0,0)] fun i0 y=>?_
    refine AJ y (0,0) (.tuple #[.agg ⟨[AI 0,AI 0]⟩,AI (Ez s.1 s.2 e.1 e.2).2.2]) ⟨?_,y.B⟩
    rw [hv,j]
    rfl
   ·refine Af (AY S8) [⟨w.heap.size,0,[AI 0,AI 0],41,true⟩,⟨q,0,[AI (Ez s.1 s.2 e.1 e.2).1,AI (Ez s.1 s.2 e.1 e.2).2.1],41,true⟩,⟨p.heap.size,0,BP e,41,true⟩,⟨a0.heap.size,0,[AI (Ez s.1 s.2 e.1 e.2).1,AI (Ez s.1 s.2 e.1 e.2).2.1],41,true⟩] h0 [(3,0),(1,0)] fun i0 y=>?_
    refine AU [(0,.slice (some ⟨g,f,none⟩) (tl.length + 1) c),(2,BY (w.heap.size)),(6,BY q),(34,.slice (some ⟨g,f + 2,none⟩) tl.length o),(35,AI (tl.length:Int)),(36,AI (IntKind.i64.wrap ((i:Int) + 1)))] fun p0=>?_
    rw [Bc i (by simp at hl; omega)]
    refine b _ _ ⟨i + 1,((Ez s.1 s.2 e.1 e.2).1,(Ez s.1 s.2 e.1 e.2).2.1),p0,d,rfl,by rw [hv,j]; rfl,y.pk [0,1] []⟩ ?_
    show tl.length - AK (AI ((i + 1:Nat):Int)) < tl.length - AK (AI (i:Int))
    simp only [AK]
    omega
  ·have g0:i=tl.length:=by have:=of_decide_eq_false c5; omega
   rw [g0,List.drop_length,Io] at hv
   refine Am 20 ef m [] fun e0 r=>?_
   refine Fk r [0,1,2,3,4,5,6] [(0,1,0)] [⟨3,[(54,AI ((tl.length + 1:Nat):Int))],.agg ⟨[AI ((tl.length + 1:Nat):Int),AI 1]⟩,true⟩,⟨4,[(52,.agg ⟨BP s⟩),(55,.agg ⟨[AI ((tl.length + 1:Nat):Int),AI 1]⟩)],DB (Kx s.1 s.2 ((tl.length + 1:Nat):Int) 1),true⟩] [(7,0,0),(8,0,0)] r.G (fun sp b0=>?_) fun r0 a0 d0=>?_
   ·rcases List.mem_cons.1 b0 with rfl | b0
    ·exact AV 119 [.tmp 54] [AI ((tl.length + 1:Nat):Int)] (fun _=>by kernel_rfl) fun hc u hu=>AN hu (Km ((tl.length + 1:Nat):Int) u)
    ·obtain rfl:=List.mem_singleton.1 b0
     exact AV 91 [.tmp 52,.tmp 55] [.agg ⟨BP s⟩,.agg ⟨[AI ((tl.length + 1:Nat):Int),AI 1]⟩] (fun _=>by kernel_rfl) fun hc u hu=>AN hu (V7 s.1 s.2 ((tl.length + 1:Nat):Int) 1 u)
   refine AB uB d0 [] fun j0 z=>?_
   refine AJ z (0,0) (DB (Kx s.1 s.2 ((tl.length + 1:Nat):Int) 1)) ⟨?_,z.B⟩
   rw [hv]
   rfl
end
end Go.Proofs.YtkjbdagicjbjjaaGreat

/-
  Part 32 of a proof: contracts of functions.
-/
import Derived.Test.YtmcpjkcggfmcmaaGreatDoorD31
set_option linter.all false
namespace Go.Proofs.YtmcpjkcggfmcmaaGreatDoor
noncomputable section
open Go.RowKit
set_option maxRecDepth 100000
set_option maxHeartbeats 1000000
attribute [local irreducible] BO CB AE AG AL Ay Aj AP Bc Cq Eb CT CO At Fr
def CN:List (Df)→List Df→List Df→List Df→List Df×List Df×List Df
 | [],a0_0,a0_1,a0_2=>(a0_0,a0_1,a0_2)
 | e0 :: tl,a0_0,a0_1,a0_2=>cond (e0.kind == 1) (CN tl (a0_0++[e0]) a0_1 a0_2) (cond (e0.kind == 3) (CN tl (a0_0++[e0]) a0_1 a0_2) (cond (e0.kind == 4) (CN tl (a0_0++[e0]) a0_1 a0_2) (cond (e0.kind == 2) (CN tl a0_0 (a0_1++[e0]) a0_2) (cond (e0.kind == 5) (CN tl a0_0 a0_1 (a0_2++[e0])) (CN tl a0_0 a0_1 a0_2)))))
theorem Qc {c:List Df} {b:List Df} {a:List Df}:CN [] c b a=((c,b,a)):=by rw [CN]
theorem Pr {c:List Df} {b:List Df} {a:List Df} {es:List (Df)} (i:Nat) (d:Df) (hi:es[i]?=some d):CN (es.drop i) c b a=(cond (d.kind == 1) (CN (es.drop (i + 1)) (c++[d]) b a) (cond (d.kind == 3) (CN (es.drop (i + 1)) (c++[d]) b a) (cond (d.kind == 4) (CN (es.drop (i + 1)) (c++[d]) b a) (cond (d.kind == 2) (CN (es.drop (i + 1)) c (b++[d]) a) (cond (d.kind == 5) (CN (es.drop (i + 1)) c b (a++[d])) (CN (es.drop (i + 1)) c b a)))))):=by
 have hl:i < es.length:=(List.getElem?_eq_some_iff.1 hi).1
 have he:es[i]=d:=(List.getElem?_eq_some_iff.1 hi).2
 rw [← List.getElem_cons_drop hl,CN] <;> (try rw [he])
def AW (ds:List (Df)):List Df×List Df×List Df:=CN ds ([]) ([]) ([])
noncomputable def dW:Code:=Tryz.f44.body.getD .skip
def MU:=AB 60 ([.code dW])
def Xv:=AB 60 (Ay MU)
def pg:=AB (BA Ai 90 (AG Xv)) (AG Xv)
def fh:=AB 60 (AE (AE pg))
def fg:=AB 60 (AG fh)
def pf:=AB (BA Bb 90 (AG fg)) (AG fg)
def ff:=AB 60 (AL fh)
def fe:=AB 60 (AG ff)
def pe:=AB (BA Bb 90 (AG fe)) (AG fe)
def Xt:=AB 60 (AL ff)
def kU:=AB (BA Bb 90 (AG Xt)) (AG Xt)
def R6:=AB 60 (AL Xt)
def kT:=AB (BA Bb 90 (AG R6)) (AG R6)
def Xu:=AB 60 (AL R6)
def kS:=AB (BA Bb 90 (AG Xu)) (AG Xu)
def tF:=AB 60 (AL Xv)
theorem ZP (L:List Th) (t2:List UInt8) (h0:Option Addr) (ds:List (Df)) (x:Nat) (w we:World) (c2:rowsDf w h0 ds) (u2:ds.length≤4294967296) (B:Below w.heap.size w we) (H:AU w.heap.size we ([]++L)):Calls Tryz.prog 44 ([.agg ⟨[.string ⟨⟨t2⟩⟩,.slice h0 ds.length x]⟩]:List Value).toArray we fun e w'=>∃ (y1:Option Addr) (t1:Nat) (x1:Option Addr) (s1:Nat) (v1:Option Addr) (r1:Nat),e=.returned (.tuple #[.slice y1 ((((AW ds)).1).length) t1,.slice x1 ((((AW ds)).2.1).length) s1,.slice v1 ((((AW ds)).2.2).length) r1])∧Below w.heap.size w w'∧AU w.heap.size w' ([Ct w y1 t1 (((AW ds)).1),Ct w x1 s1 (((AW ds)).2.1),Ct w v1 r1 (((AW ds)).2.2)]++L):=by
 refine Af (fn:=Tryz.f44) (c:=dW) (n:=40) ?_
 have K1:Wk w we [] [] L:=⟨B,H⟩
 clear B H
 refine BQ MU K1 [(0,1)] fun w1 K2=>?_
 have K3:Wk w w1 [] [] L:=K2.pk [] []
 have K4:=K3.addNil 34 21 (Fp CY w)
 have K5:=K4.addNil 34 21 (Fp CY w)
 have K6:=K5.addNil 34 21 (Fp CY w)
 have z:(AW ds)=CN ds ([]) ([]) ([]):=by unfold AW; rfl
 refine BB [(2,.slice none 0 0),(3,.slice none 0 0),(4,.slice none 0 0),(8,.slice h0 ds.length x),(9,D ((ds.length:Int))),(10,D (((0:Nat):Int)))] fun E2=>?_
 refine Bi (by kernel_rfl) (fun E k1=>∃ (u:Nat) (m:List Df) (l:List Df) (j:List Df) (t:Option Addr) (s:Nat) (i:Option Addr) (f:Nat) (d:Option Addr) (b:Nat) (E0:Nat→Value),u≤ds.length∧E=Aw E0 [(2,.slice t m.length s),(3,.slice i l.length f),(4,.slice d j.length b),(8,.slice h0 ds.length x),(9,D ((ds.length:Int))),(10,D ((u:Int)))]∧(AW ds)=CN (List.drop u ds) m l j∧m.length≤1 * u + 0∧l.length≤1 * u + 0∧j.length≤1 * u + 0∧Wk w k1 [] [(Ct w t s m),(Ct w i f l),(Ct w d b j)] L) (fun E _=>ds.length - AQ (E 10)) ⟨0,([]),([]),([]),none,0,none,0,none,0,E2,Nat.zero_le _,rfl,z,by simp,by simp,by simp,K6⟩ ?_
 clear z
 rintro E k1 ⟨u,m,l,j,t,s,i,f,d,b,E0,z4,rfl,z,x2,w2,v2,K7⟩ v
 refine AC Xv K7 [] fun w4 K8=>?_
 refine AM (decide ((u:Int) < (ds.length:Int))) (fun c5=>?_) (fun c5=>?_)
 ·have y:u < ds.length:=by have:=of_decide_eq_true c5; omega
  obtain ⟨a,b2⟩:∃ e,ds[u]?=some e:=⟨_,List.getElem?_eq_getElem y⟩
  rw [Pr u a b2] at z
  obtain ⟨c0,d0,rfl,d2,e2⟩:=c2.all (by omega)
  obtain ⟨r,p,q,o,z1,b0,a0⟩:=e2 u _ b2
  refine BG Ai pg K8 [] fun w6 K9=>?_
  refine BH (g:=c0) (off:=d0) (cap:=x) (sz:=21) (k:=u) (len:=ds.length) (some 12) y Tryz.underlying36 ?_
  let z5:List Value:=[D a.kind,.string ⟨⟨a.name⟩⟩,.bool (a.tb),D a.tm,D a.th,D a.td,D a.frm,.slice r a.ents.length p,D a.body.op,D a.body.num,D a.body.den,D a.body.mu,D a.body.hu,D a.body.du,.string ⟨⟨a.body.nm⟩⟩,D a.body.cnt,D a.body.md,.slice q a.body.ks.length o,D a.mode,D a.num,D a.den]
  refine CC 34 c0 (d0 + u * 21) z5 (some 13) (Ac z1 d2 K9.B) ?_
  refine BQ fh K9 [(0,0),(0,0)] fun w7 k2=>?_
  refine AM (a.kind == 1) (fun c8=>?_) (fun c8=>?_)
  ·refine AC fg k2 [] fun w9 z3=>?_
   refine AM (a.kind == 1) (fun _=>?_) (fun h=>nomatch h.symm.trans c8)
   refine Cb Bb pf [⟨w6.heap.size,0,(Ce a r p q o),34,true⟩,⟨w9.heap.size,0,(Ce a r p q o),34,true⟩] z3 [(0,0)] fun y4 v0=>?_
   refine Ch v0.H (v0.ix 0) (v0.at 0 rfl) a z5 (JW b0 a0) (w9.heap.size) (v0.ent 1 (by kernel_rfl)) (DM pf) (by kernel_rfl) (.tmp 20) (.tmp 22) 36 (by kernel_rfl) (by kernel_rfl) (by kernel_rfl) (by decide) (by kernel_rfl) (by kernel_rfl) rfl rfl (by ((try simp only [maxLen,List.length_append,List.length_cons,List.length_nil,List.length_singleton]) <;> omega)) fun i1 c1 x4 Hn c3=>?_
   have y3:=v0.put 0 (by simp) c3 Hn
   refine AC (Aj MU) y3 [] fun s2 x3=>?_
   refine BB [(2,.slice i1 ((m++[a]).length) c1),(3,.slice i l.length f),(4,.slice d j.length b),(8,.slice (some ⟨c0,d0,none⟩) ds.length x),(9,D ((ds.length:Int))),(10,D (IntKind.i64.wrap ((u:Int) + 1)))] fun g4=>?_
   have w3:Wk w s2 [] [(Ct w i1 c1 (m++[a])),(Ct w i f l),(Ct w d b j)] L:=x3.pk [] [0,1,2]
   rw [Bs u (by omega)]
   refine v _ _ ⟨u + 1,(m++[a]),l,j,i1,c1,i,f,d,b,g4,y,rfl,by rw [z,c8] <;> rfl,by ((try simp only [maxLen,List.length_append,List.length_cons,List.length_nil,List.length_singleton]) <;> omega),by ((try simp only [maxLen,List.length_append,List.length_cons,List.length_nil,List.length_singleton]) <;> omega),by ((try simp only [maxLen,List.length_append,List.length_cons,List.length_nil,List.length_singleton]) <;> omega),w3⟩ ?_
   show ds.length - AQ (D ((u + 1:Nat):Int)) < ds.length - AQ (D (u:Int))
   simp only [AQ]
   omega
  ·refine AC ff k2 [] fun v4 i2=>?_
   refine AM (a.kind == 3) (fun f0=>?_) (fun f0=>?_)
   ·refine AC fe i2 [] fun q1 v3=>?_
    refine AM (a.kind == 3) (fun _=>?_) (fun h=>nomatch h.symm.trans f0)
    refine Cb Bb pe [⟨w6.heap.size,0,(Ce a r p q o),34,true⟩,⟨q1.heap.size,0,(Ce a r p q o),34,true⟩] v3 [(0,0)] fun u4 t0=>?_
    refine Ch t0.H (t0.ix 0) (t0.at 0 rfl) a z5 (JW b0 a0) (q1.heap.size) (t0.ent 1 (by kernel_rfl)) (DM pe) (by kernel_rfl) (.tmp 20) (.tmp 22) 36 (by kernel_rfl) (by kernel_rfl) (by kernel_rfl) (by decide) (by kernel_rfl) (by kernel_rfl) rfl rfl (by ((try simp only [maxLen,List.length_append,List.length_cons,List.length_nil,List.length_singleton]) <;> omega)) fun h1 b1 t4 Hn b3=>?_
    have u3:=t0.put 0 (by simp) b3 Hn
    refine AC (Aj MU) u3 [] fun r2 t3=>?_
    refine BB [(2,.slice h1 ((m++[a]).length) b1),(3,.slice i l.length f),(4,.slice d j.length b),(8,.slice (some ⟨c0,d0,none⟩) ds.length x),(9,D ((ds.length:Int))),(10,D (IntKind.i64.wrap ((u:Int) + 1)))] fun f4=>?_
    have s3:Wk w r2 [] [(Ct w h1 b1 (m++[a])),(Ct w i f l),(Ct w d b j)] L:=t3.pk [] [0,1,2]
    rw [Bs u (by omega)]
    refine v _ _ ⟨u + 1,(m++[a]),l,j,h1,b1,i,f,d,b,f4,y,rfl,by rw [z,c8,f0] <;> rfl,by ((try simp only [maxLen,List.length_append,List.length_cons,List.length_nil,List.length_singleton]) <;> omega),by ((try simp only [maxLen,List.length_append,List.length_cons,List.length_nil,List.length_singleton]) <;> omega),by ((try simp only [maxLen,List.length_append,List.length_cons,List.length_nil,List.length_singleton]) <;> omega),s3⟩ ?_
    show ds.length - AQ (D ((u + 1:Nat):Int)) < ds.length - AQ (D (u:Int))
    simp only [AQ]
    omega
   ·refine AC Xt i2 [] fun p1 h2=>?_
    refine AM (a.kind == 4) (fun k0=>?_) (fun k0=>?_)
    ·refine Cb Bb kU [⟨w6.heap.size,0,(Ce a r p q o),34,true⟩,⟨p1.heap.size,0,(Ce a r p q o),34,true⟩] h2 [(0,0)] fun s4 r0=>?_
     refine Ch r0.H (r0.ix 0) (r0.at 0 rfl) a z5 (JW b0 a0) (p1.heap.size) (r0.ent 1 (by kernel_rfl)) (DM kU) (by kernel_rfl) (.tmp 20) (.tmp 22) 36 (by kernel_rfl) (by kernel_rfl) (by kernel_rfl) (by decide) (by kernel_rfl) (by kernel_rfl) rfl rfl (by ((try simp only [maxLen,List.length_append,List.length_cons,List.length_nil,List.length_singleton]) <;> omega)) fun g1 a1 r4 Hn a3=>?_
     have r3:=r0.put 0 (by simp) a3 Hn
     refine AC (Aj MU) r3 [] fun q2 q3=>?_
     refine BB [(2,.slice g1 ((m++[a]).length) a1),(3,.slice i l.length f),(4,.slice d j.length b),(8,.slice (some ⟨c0,d0,none⟩) ds.length x),(9,D ((ds.length:Int))),(10,D (IntKind.i64.wrap ((u:Int) + 1)))] fun e4=>?_
     have m3:Wk w q2 [] [(Ct w g1 a1 (m++[a])),(Ct w i f l),(Ct w d b j)] L:=q3.pk [] [0,1,2]
     rw [Bs u (by omega)]
     refine v _ _ ⟨u + 1,(m++[a]),l,j,g1,a1,i,f,d,b,e4,y,rfl,by rw [z,c8,f0,k0] <;> rfl,by ((try simp only [maxLen,List.length_append,List.length_cons,List.length_nil,List.length_singleton]) <;> omega),by ((try simp only [maxLen,List.length_append,List.length_cons,List.length_nil,List.length_singleton]) <;> omega),by ((try simp only [maxLen,List.length_append,List.length_cons,List.length_nil,List.length_singleton]) <;> omega),m3⟩ ?_
     show ds.length - AQ (D ((u + 1:Nat):Int)) < ds.length - AQ (D (u:Int))
     simp only [AQ]
     omega
    ·refine AC R6 h2 [] fun n1 g2=>?_
     refine AM (a.kind == 2) (fun w0=>?_) (fun w0=>?_)
     ·refine Cb Bb kT [⟨w6.heap.size,0,(Ce a r p q o),34,true⟩,⟨n1.heap.size,0,(Ce a r p q o),34,true⟩] g2 [(0,0)] fun q4 q0=>?_
      refine Ch q0.H (q0.ix 1) (q0.at 1 rfl) a z5 (JW b0 a0) (n1.heap.size) (q0.ent 1 (by kernel_rfl)) (DM kT) (by kernel_rfl) (.tmp 26) (.tmp 28) 36 (by kernel_rfl) (by kernel_rfl) (by kernel_rfl) (by decide) (by kernel_rfl) (by kernel_rfl) rfl rfl (by ((try simp only [maxLen,List.length_append,List.length_cons,List.length_nil,List.length_singleton]) <;> omega)) fun f1 z0 m4 Hn z2=>?_
      have l3:=q0.put 1 (by simp) z2 Hn
      refine AC (Aj MU) l3 [] fun p2 k3=>?_
      refine BB [(2,.slice t m.length s),(3,.slice f1 ((l++[a]).length) z0),(4,.slice d j.length b),(8,.slice (some ⟨c0,d0,none⟩) ds.length x),(9,D ((ds.length:Int))),(10,D (IntKind.i64.wrap ((u:Int) + 1)))] fun c4=>?_
      have i3:Wk w p2 [] [(Ct w t s m),(Ct w f1 z0 (l++[a])),(Ct w d b j)] L:=k3.pk [] [0,1,2]
      rw [Bs u (by omega)]
      refine v _ _ ⟨u + 1,m,(l++[a]),j,t,s,f1,z0,d,b,c4,y,rfl,by rw [z,c8,f0,k0,w0] <;> rfl,by ((try simp only [maxLen,List.length_append,List.length_cons,List.length_nil,List.length_singleton]) <;> omega),by ((try simp only [maxLen,List.length_append,List.length_cons,List.length_nil,List.length_singleton]) <;> omega),by ((try simp only [maxLen,List.length_append,List.length_cons,List.length_nil,List.length_singleton]) <;> omega),i3⟩ ?_
      show ds.length - AQ (D ((u + 1:Nat):Int)) < ds.length - AQ (D (u:Int))
      simp only [AQ]
      omega
     ·refine AC Xu g2 [] fun m1 f2=>?_
      refine AM (a.kind == 5) (fun y0=>?_) (fun y0=>?_)
      ·refine Cb Bb kS [⟨w6.heap.size,0,(Ce a r p q o),34,true⟩,⟨m1.heap.size,0,(Ce a r p q o),34,true⟩] f2 [(0,0)] fun k4 p0=>?_
       refine Ch p0.H (p0.ix 2) (p0.at 2 rfl) a z5 (JW b0 a0) (m1.heap.size) (p0.ent 1 (by kernel_rfl)) (DM kS) (by kernel_rfl) (.tmp 32) (.tmp 34) 36 (by kernel_rfl) (by kernel_rfl) (by kernel_rfl) (by decide) (by kernel_rfl) (by kernel_rfl) rfl rfl (by ((try simp only [maxLen,List.length_append,List.length_cons,List.length_nil,List.length_singleton]) <;> omega)) fun e1 x0 i4 Hn y2=>?_
       have h3:=p0.put 2 (by simp) y2 Hn
       refine AC (Aj MU) h3 [] fun m2 g3=>?_
       refine BB [(2,.slice t m.length s),(3,.slice i l.length f),(4,.slice e1 ((j++[a]).length) x0),(8,.slice (some ⟨c0,d0,none⟩) ds.length x),(9,D ((ds.length:Int))),(10,D (IntKind.i64.wrap ((u:Int) + 1)))] fun b4=>?_
       have f3:Wk w m2 [] [(Ct w t s m),(Ct w i f l),(Ct w e1 x0 (j++[a]))] L:=g3.pk [] [0,1,2]
       rw [Bs u (by omega)]
       refine v _ _ ⟨u + 1,m,l,(j++[a]),t,s,i,f,e1,x0,b4,y,rfl,by rw [z,c8,f0,k0,w0,y0] <;> rfl,by ((try simp only [maxLen,List.length_append,List.length_cons,List.length_nil,List.length_singleton]) <;> omega),by ((try simp only [maxLen,List.length_append,List.length_cons,List.length_nil,List.length_singleton]) <;> omega),by ((try simp only [maxLen,List.length_append,List.length_cons,List.length_nil,List.length_singleton]) <;> omega),f3⟩ ?_
       show ds.length - AQ (D ((u + 1:Nat):Int)) < ds.length - AQ (D (u:Int))
       simp only [AQ]
       omega
      ·refine AC (Aj MU) f2 [] fun l2 e3=>?_
       refine BB [(2,.slice t m.length s),(3,.slice i l.length f),(4,.slice d j.length b),(8,.slice (some ⟨c0,d0,none⟩) ds.length x),(9,D ((ds.length:Int))),(10,D (IntKind.i64.wrap ((u:Int) + 1)))] fun a4=>?_
       have d3:Wk w l2 [] [(Ct w t s m),(Ct w i f l),(Ct w d b j)] L:=e3.pk [] [0,1,2]
       rw [Bs u (by omega)]
       refine v _ _ ⟨u + 1,m,l,j,t,s,i,f,d,b,a4,y,rfl,by rw [z,c8,f0,k0,w0,y0] <;> rfl,by ((try simp only [maxLen,List.length_append,List.length_cons,List.length_nil,List.length_singleton]) <;> omega),by ((try simp only [maxLen,List.length_append,List.length_cons,List.length_nil,List.length_singleton]) <;> omega),by ((try simp only [maxLen,List.length_append,List.length_cons,List.length_nil,List.length_singleton]) <;> omega),d3⟩ ?_
       show ds.length - AQ (D ((u + 1:Nat):Int)) < ds.length - AQ (D (u:Int))
       simp only [AQ]
       omega
 ·have a2:u=ds.length:=by have:=of_decide_eq_false c5; omega
  rw [a2,List.drop_length,Qc] at z
  refine AC tF K8 [] fun h4 d1=>?_
  have hS:(AW ds)=(m,l,j):=by rw [z] <;> rfl
  exact Ab d1 (0,0) (.tuple #[.slice t m.length s,.slice i l.length f,.slice d j.length b]) ⟨t,s,i,f,d,b,by rw [hS] <;> rfl,d1.B,by rw [hS]; exact d1.own [0,1,2] rfl (by decide)⟩
end
end Go.Proofs.YtmcpjkcggfmcmaaGreatDoor
namespace Go.Proofs.YtmcpjkcggfmcmaaGreatDoor
open Go.RowKit
set_option maxRecDepth 100000
set_option maxHeartbeats 600000
theorem iX {P:Program} {o:Oper} {ρ:Operand→Value} {w:World} {t e:TypeId} {x h:Operand} {g off len cap i:Nat} (hop:o.op=.slice t x none (some h) none) (hu:P.underlying t=some (.slice e)) (hs:PG P e≠none) (c:ρ x=.slice (some ⟨g,off,none⟩) len cap) (d:ρ h=D (i:Nat)) (hi:i≤cap):(execOp ρ o).run P w=.ok (.value (.slice (some ⟨g,off,none⟩) i cap)) w:=by
 obtain ⟨sz,b⟩:=Option.ne_none_iff_exists'.1 hs
 have f:¬ (cap:Int) < (i:Int):=by omega
 have a:(⟨g,off,none⟩:Addr).add 0=⟨g,off,none⟩:=rfl
 simp [execOp,hop,c,d,Instr.sliceAt,Instr.slice,run_underlying hu,N6 b,Instr.sliceBounds,Instr.sliceBound,asIntOf,hi,f,a]
theorem Ju {w:World} {e:BI} (h:e.good w):w.rangeAt e.id e.off e.cells:=fun _ _ hv=>Fl h hv rfl rfl rfl
theorem RH {w:World}:∀ {ds:List Df} {rs:List (List Value)} (i:Nat),FQ CY w ds rs→FQ CY w (ds.take i) (rs.take i)
 | ds,rs,0,_=>by rw [List.take_zero,List.take_zero]; unfold FQ; rfl
 | [],rs,i + 1,h=>by unfold FQ at h; subst h; rw [List.take_nil,List.take_nil]; unfold FQ; rfl
 | d :: ds,rs,i + 1,h=>by
  unfold FQ at h
  obtain ⟨c,cs,rfl,a,h2⟩:=h
  rw [List.take_succ_cons,List.take_succ_cons]
  unfold FQ
  exact ⟨c,_,rfl,a,RH i h2⟩
theorem Y0 {w:World} {n:Nat} {A:Option Addr} {rs:List (List Value)} (h:DI CY w n A rs) (i:Nat):DI CY w n A (rs.take i):=by
 rcases h with h | ⟨g,off,rfl,h2,hg,hc⟩
 ·subst h; rw [List.take_nil]; exact .inl rfl
 ·refine .inr ⟨g,off,rfl,h2,hg,fun j r a=>hc j r ?_⟩
  rw [List.getElem?_take] at a
  split at a
  ·exact a
  ·cases a
theorem rowsDf.take {w:World} {A:Option Addr} {ds:List Df} (h:rowsDf w A ds) (i:Nat):rowsDf w A (ds.take i):=
 let ⟨_,h1,h2⟩:=h
 ⟨_,RH i h1,Y0 h2 i⟩
end Go.Proofs.YtmcpjkcggfmcmaaGreatDoor

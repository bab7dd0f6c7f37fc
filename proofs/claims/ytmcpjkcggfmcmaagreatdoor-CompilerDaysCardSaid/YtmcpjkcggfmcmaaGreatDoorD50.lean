/-
  Part 50 of a proof: contracts of functions.
-/
import Derived.Test.YtmcpjkcggfmcmaaGreatDoorD49
set_option linter.all false
namespace Go.Proofs.YtmcpjkcggfmcmaaGreatDoor
noncomputable section
open Go.RowKit
set_option maxRecDepth 100000
set_option maxHeartbeats 1000000
attribute [local irreducible] BO CB AE AG AL Ay Aj AP Bc Cq Eb CT CO At Fr
def CZ (p0an:Nat) (p0bn:Nat) (p0cn:Nat) (rts:List (DL)) (k:Nat) (p2:Int) (p3a:Int) (p3b:Int):Bool:=cond (p3a == 2) (Du p3b (p0an:Int)) (cond (p3a == 4) (Du p3b (p0bn:Int)) (cond (p3a == 19) (Du p3b (p0cn:Int)) (cond (p3a == 20) (Du p3b (p0cn:Int)) (cond (p3a == 3) (Du p3b (k:Int)) (cond (p3a == 16) (cond (decide (p2 < p3b)) (decide (p3b≤((rts.getD k default).2.2.2.2.2.length:Int))) (false)) (cond (p3a == 17) (cond (decide (p2 < p3b)) (decide (p3b≤((rts.getD k default).2.2.2.2.2.length:Int))) (false)) (cond (cond (decide (1≤p3a)) (decide (p3a≤20)) (false)) (p3b == 0) (false))))))))
noncomputable def V3:Code:=Tryz.f26.body.getD .skip
def YK:=AB 60 ([.code V3])
def lC:=AB 60 (AG YK)
def tT:=AB 60 (AE lC)
def YJ:=AB 60 (AL YK)
def lB:=AB 60 (AG YJ)
def tS:=AB 60 (AE lB)
def YI:=AB 60 (AL YJ)
def lA:=AB 60 (AG YI)
def kz:=AB 60 (AG lA)
def tR:=AB 60 (AE kz)
def TF:=AB 60 (AL YI)
def ak:=AB 60 (AG TF)
def qQ:=AB 60 (AE ak)
def TE:=AB 60 (AL TF)
def aj:=AB 60 (AG TE)
def qP:=AB 60 (AE aj)
def TC:=AB 60 (AL TE)
def ai:=AB 60 (AG TC)
def ah:=Ad 13 (AG ai)
def qO:=AB 60 (AP ah)
def TB:=AB 60 (AL TC)
def ag:=Ad 13 (AG TB)
def qN:=AB 60 (AP ag)
def ae:=Ad 14 (AL TB)
def qM:=AB 60 (AP ae)
theorem SO (w0:Option Addr) (g v0:Nat) (t0:Option Addr) (f r0:Nat) (q0:Option Addr) (b p0:Nat) (y:Option Addr) (rts:List (DL)) (i k:Nat) (m d a k0 i0 b1 a1:Int) (w:World) (b0:rowsRt w y rts) (r1:rts.length≤4294967296) (t:k < rts.length):Calls Tryz.prog 26 ([.agg ⟨[.slice w0 g v0,.slice t0 f r0,.slice q0 b p0,.slice y rts.length i]⟩,D ((k:Int)),D m,.agg ⟨[D d,D a,D k0,D i0,D b1,D a1]⟩]:List Value).toArray w fun e w'=>e=.returned (.bool ((CZ g f b rts k m d a)))∧Below w.heap.size w w':=by
 refine Af (fn:=Tryz.f26) (c:=V3) (n:=74) ?_
 have K1:=Wk.start w
 refine C8 YK [⟨w.heap.size,0,[.slice w0 g v0,.slice t0 f r0,.slice q0 b p0,.slice y rts.length i],43,true⟩,⟨w.heap.size + 1,0,[D d,D a,D k0,D i0,D b1,D a1],53,true⟩] K1 [(1,0)] fun w1 K2=>?_
 refine AM (d == 2) (fun c2=>?_) (fun c2=>?_)
 ·refine AC lC K2 [(1,1),(0,0)] fun w3 K3=>?_
  refine Ap K3 (H6 a (g:Int) w3) fun w4 K4=>?_
  refine AC tT K4 [] fun w5 K5=>?_
  have o:(CZ g f b rts k m d a)=(Du a (g:Int)):=by unfold CZ; rw [c2] <;> rfl
  exact Ab K5 (0,0) (.bool (Du a (g:Int))) ⟨by rw [o] <;> rfl,K5.B⟩
 ·refine AC YJ K2 [] fun w6 K6=>?_
  refine AM (d == 4) (fun c7=>?_) (fun c7=>?_)
  ·refine AC lB K6 [(1,1),(0,1)] fun w8 K7=>?_
   refine Ap K7 (H6 a (f:Int) w8) fun w9 K8=>?_
   refine AC tS K8 [] fun k3 K9=>?_
   have o:(CZ g f b rts k m d a)=(Du a (f:Int)):=by unfold CZ; rw [c2,c7] <;> rfl
   exact Ab K9 (0,0) (.bool (Du a (f:Int))) ⟨by rw [o] <;> rfl,K9.B⟩
  ·refine AC YI K6 [] fun i3 q1=>?_
   refine AM (d == 19) (fun l=>?_) (fun l=>?_)
   ·refine AC lA q1 [] fun h3 i2=>?_
    refine AM (d == 19) (fun _=>?_) (fun h=>nomatch h.symm.trans l)
    refine AC kz i2 [(1,1),(0,2)] fun v1 h2=>?_
    refine Ap h2 (H6 a (b:Int) v1) fun g3 g2=>?_
    refine AC tR g2 [] fun f3 p1=>?_
    have o:(CZ g f b rts k m d a)=(Du a (b:Int)):=by unfold CZ; rw [c2,c7,l] <;> rfl
    exact Ab p1 (0,0) (.bool (Du a (b:Int))) ⟨by rw [o] <;> rfl,p1.B⟩
   ·refine AC TF q1 [] fun e3 n1=>?_
    refine AM (d == 20) (fun v=>?_) (fun v=>?_)
    ·refine AC ak n1 [(1,1),(0,2)] fun t1 f2=>?_
     refine Ap f2 (H6 a (b:Int) t1) fun d3 e2=>?_
     refine AC qQ e2 [] fun c3 m1=>?_
     have o:(CZ g f b rts k m d a)=(Du a (b:Int)):=by unfold CZ; rw [c2,c7,l,v] <;> rfl
     exact Ab m1 (0,0) (.bool (Du a (b:Int))) ⟨by rw [o] <;> rfl,m1.B⟩
    ·refine AC TE n1 [] fun b3 k1=>?_
     refine AM (d == 3) (fun e0=>?_) (fun e0=>?_)
     ·refine AC aj k1 [(1,1)] fun s1 d2=>?_
      refine Ap d2 (H6 a (k:Int) s1) fun a3 b2=>?_
      refine AC qP b2 [] fun z2 i1=>?_
      have o:(CZ g f b rts k m d a)=(Du a (k:Int)):=by unfold CZ; rw [c2,c7,l,v,e0] <;> rfl
      exact Ab i1 (0,0) (.bool (Du a (k:Int))) ⟨by rw [o] <;> rfl,i1.B⟩
     ·refine AC TC k1 [] fun y2 h1=>?_
      refine AM (d == 16) (fun d0=>?_) (fun d0=>?_)
      ·refine AC ai h1 [] fun x2 a2=>?_
       refine AM (d == 16) (fun _=>?_) (fun h=>nomatch h.symm.trans d0)
       refine Al 13 ah a2 [] fun w2 h0=>?_
       obtain ⟨p,q,rfl,j,c0⟩:=b0.all (by omega)
       have x0:rts[k]?=some (rts.getD k default):=getD_some default t
       obtain ⟨s,r,a0,y0⟩:=c0 k _ x0
       refine Ao h0 [(1,1,1),(6,1,1),(8,0,3),(12,2,5)] [⟨10,[(53,.slice (some ⟨p,q,none⟩) rts.length i),(54,D ((k:Int)))],.pointer (some ⟨p,q + k * 6,none⟩),((decide (m < a))) && (true)⟩] (C1 (x:=⟨p,q + k * 6,[.string ⟨⟨(rts.getD k default).1⟩⟩,.bool ((rts.getD k default).2.1),D ((rts.getD k default).2.2.1),D ((rts.getD k default).2.2.2.1),D ((rts.getD k default).2.2.2.2.1),.slice s ((rts.getD k default).2.2.2.2.2.length) r],49,false⟩) h0.G ⟨Nat.lt_of_lt_of_le j h0.B.size,Ac a0 j h0.B⟩) (fun sp z=>?_) fun v2 q3 z1=>?_
       ·rw [List.mem_singleton.1 z]
        exact An fun _ E u _=>Bd (sz:=6) (cap:=i) 41 (.tmp 53) (.tmp 54) (by kernel_rfl) (by kernel_rfl) t Tryz.underlying41
       refine AC qO z1 [] fun u2 g1=>?_
       let z6:=(cond (decide (m < a)) (decide (a≤((rts.getD k default).2.2.2.2.2.length:Int))) (false))
       have o:(CZ g f b rts k m d a)=z6:=by unfold CZ; rw [c2,c7,l,v,e0,d0] <;> rfl
       exact Ab g1 (0,0) (.bool z6) ⟨by rw [o] <;> rfl,g1.B⟩
      ·refine AC TB h1 [] fun t2 f1=>?_
       refine AM (d == 17) (fun z0=>?_) (fun z0=>?_)
       ·refine Al 13 ag f1 [] fun s2 f0=>?_
        obtain ⟨p,q,rfl,j,c0⟩:=b0.all (by omega)
        have x0:rts[k]?=some (rts.getD k default):=getD_some default t
        obtain ⟨s,r,a0,y0⟩:=c0 k _ x0
        refine Ao f0 [(1,1,1),(6,1,1),(8,0,3),(12,2,5)] [⟨10,[(53,.slice (some ⟨p,q,none⟩) rts.length i),(54,D ((k:Int)))],.pointer (some ⟨p,q + k * 6,none⟩),((decide (m < a))) && (true)⟩] (C1 (x:=⟨p,q + k * 6,[.string ⟨⟨(rts.getD k default).1⟩⟩,.bool ((rts.getD k default).2.1),D ((rts.getD k default).2.2.1),D ((rts.getD k default).2.2.2.1),D ((rts.getD k default).2.2.2.2.1),.slice s ((rts.getD k default).2.2.2.2.2.length) r],49,false⟩) f0.G ⟨Nat.lt_of_lt_of_le j f0.B.size,Ac a0 j f0.B⟩) (fun sp z=>?_) fun r2 m3 y1=>?_
        ·rw [List.mem_singleton.1 z]
         exact An fun _ E u _=>Bd (sz:=6) (cap:=i) 41 (.tmp 53) (.tmp 54) (by kernel_rfl) (by kernel_rfl) t Tryz.underlying41
        refine AC qN y1 [] fun q2 e1=>?_
        let z7:=(cond (decide (m < a)) (decide (a≤((rts.getD k default).2.2.2.2.2.length:Int))) (false))
        have o:(CZ g f b rts k m d a)=z7:=by unfold CZ; rw [c2,c7,l,v,e0,d0,z0] <;> rfl
        exact Ab e1 (0,0) (.bool z7) ⟨by rw [o] <;> rfl,e1.B⟩
       ·refine Al 14 ae f1 [] fun m2 d1=>?_
        refine Ao d1 [(1,1,0),(5,1,0),(10,1,1)] [] d1.G (fun sp z=>by cases z) fun l2 l3 x1=>?_
        refine AC qM x1 [] fun k2 c1=>?_
        let z8:=cond (cond (decide (1≤d)) (decide (d≤20)) (false)) (a == 0) (false)
        have o:(CZ g f b rts k m d a)=z8:=by unfold CZ; rw [c2,c7,l,v,e0,d0,z0] <;> rfl
        exact Ab c1 (0,0) (.bool z8) ⟨by rw [o] <;> rfl,c1.B⟩
def LF (cs:List AK) (i:Nat):Prop:=∀ (q:Nat) (x:AK),q < i→cs[q]?=some x→x.1=16∨x.1=17→(q:Int) < x.2.1∧x.2.1≤(cs.length:Int)
theorem VQ (cs:List AK):LF cs 0:=fun _ _ h=>absurd h (Nat.not_lt_zero _)
theorem VR {cs:List AK} {i:Nat} (h:LF cs i) (hi:i=cs.length):Pj cs:=fun q x a=>h q x (by rw [hi]; exact (List.getElem?_eq_some_iff.1 a).1) a
theorem UL {d c a:Nat} {rts:List DL} {e:DL} {k i:Nat} {x:AK} {b:Bool} (l:LF e.2.2.2.2.2 i) (j:e.2.2.2.2.2[i]?=some x) (he:rts[k]?=some e) (hc:cond (!b) true (!(CZ d c a rts k (i:Int) x.1 x.2.1))=false):LF e.2.2.2.2.2 (i + 1):=fun q y m f hop=>by
 by_cases h:q=i
 ·subst h
  obtain rfl:=Option.some.inj (j.symm.trans f)
  have hg:(rts.getD k default).2.2.2.2.2=e.2.2.2.2.2:=by rw [List.getD_eq_getElem?_getD,he]; rfl
  have hv:CZ d c a rts k (q:Int) x.1 x.2.1=true:=by
   cases b
   ·cases hc
   ·simpa using hc
  unfold CZ at hv
  rw [hg] at hv
  rcases hop with g | g <;> rw [g] at hv <;> simp at hv <;> omega
 ·exact l q y (by omega) f hop
def D1 (ins:List (List UInt8)) (scs:List (List (Int×Int×Int))) (pas:List (List UInt8)) (rts:List (DL)) (i1:Nat) (k2:Bool):List (AK)→Nat→Bool
 | [],i2=>k2
 | e2 :: tl,i2=>cond (cond (!(Dc e2.1 e2.2.2.1 e2.2.2.2.1 e2.2.2.2.2.1 e2.2.2.2.2.2)) (true) (!((CZ ins.length scs.length pas.length rts i1 (i2:Int) e2.1 e2.2.1)))) (false) (D1 ins scs pas rts i1 k2 tl (i2 + 1))
theorem NW {ins:List (List UInt8)} {scs:List (List (Int×Int×Int))} {pas:List (List UInt8)} {rts:List (DL)} {c:Nat} {a:Bool} {b:Nat}:D1 ins scs pas rts c a [] b=(a):=by rw [D1]
theorem M0 {ins:List (List UInt8)} {scs:List (List (Int×Int×Int))} {pas:List (List UInt8)} {rts:List (DL)} {c:Nat} {d:Bool} {es:List (AK)} (b:Nat) (a:AK) (hi:es[b]?=some a):D1 ins scs pas rts c d (es.drop b) b=(cond (cond (!(Dc a.1 a.2.2.1 a.2.2.2.1 a.2.2.2.2.1 a.2.2.2.2.2)) (true) (!((CZ ins.length scs.length pas.length rts c (b:Int) a.1 a.2.1)))) (false) (D1 ins scs pas rts c d (es.drop (b + 1)) (b + 1))):=by
 have hl:b < es.length:=(List.getElem?_eq_some_iff.1 hi).1
 have he:es[b]=a:=(List.getElem?_eq_some_iff.1 hi).2
 rw [← List.getElem_cons_drop hl,D1] <;> (try rw [he])
def DR (ins:List (List UInt8)) (scs:List (List (Int×Int×Int))) (pas:List (List UInt8)) (rts:List (DL)):List (DL)→Nat→Bool
 | [],i1=>true
 | e1 :: tl,i1=>cond (cond (decide (4096 < (e1.2.2.2.2.2.length:Int))) (true) (!(Eo e1.2.1 e1.2.2.1 e1.2.2.2.1 e1.2.2.2.2.1))) (false) (D1 ins scs pas rts i1 (cond (!((DV e1.2.2.2.2.2))) (false) (DR ins scs pas rts tl (i1 + 1))) e1.2.2.2.2.2 0)
theorem NX {ins:List (List UInt8)} {scs:List (List (Int×Int×Int))} {pas:List (List UInt8)} {rts:List (DL)} {a:Nat}:DR ins scs pas rts [] a=(true):=by rw [DR]
theorem M1 {ins:List (List UInt8)} {scs:List (List (Int×Int×Int))} {pas:List (List UInt8)} {rts:List (DL)} {es:List (DL)} (b:Nat) (a:DL) (hi:es[b]?=some a):DR ins scs pas rts (es.drop b) b=(cond (cond (decide (4096 < (a.2.2.2.2.2.length:Int))) (true) (!(Eo a.2.1 a.2.2.1 a.2.2.2.1 a.2.2.2.2.1))) (false) (D1 ins scs pas rts b (cond (!((DV a.2.2.2.2.2))) (false) (DR ins scs pas rts (es.drop (b + 1)) (b + 1))) a.2.2.2.2.2 0)):=by
 have hl:b < es.length:=(List.getElem?_eq_some_iff.1 hi).1
 have he:es[b]=a:=(List.getElem?_eq_some_iff.1 hi).2
 rw [← List.getElem_cons_drop hl,DR] <;> (try rw [he])
def EK (ins:List (List UInt8)) (scs:List (List (Int×Int×Int))) (pas:List (List UInt8)) (rts:List (DL)):List (List (Int×Int×Int))→Bool
 | []=>DR ins scs pas rts rts 0
 | e0 :: tl=>cond (!(Fa e0)) (false) (EK ins scs pas rts tl)
theorem NY {ins:List (List UInt8)} {scs:List (List (Int×Int×Int))} {pas:List (List UInt8)} {rts:List (DL)}:EK ins scs pas rts []=(DR ins scs pas rts rts 0):=by rw [EK]
theorem M2 {ins:List (List UInt8)} {scs:List (List (Int×Int×Int))} {pas:List (List UInt8)} {rts:List (DL)} {es:List (List (Int×Int×Int))} (i:Nat) (a:List (Int×Int×Int)) (hi:es[i]?=some a):EK ins scs pas rts (es.drop i)=(cond (!(Fa a)) (false) (EK ins scs pas rts (es.drop (i + 1)))):=by
 have hl:i < es.length:=(List.getElem?_eq_some_iff.1 hi).1
 have he:es[i]=a:=(List.getElem?_eq_some_iff.1 hi).2
 rw [← List.getElem_cons_drop hl,EK] <;> (try rw [he])
def DP (ins:List (List UInt8)) (scs:List (List (Int×Int×Int))) (pas:List (List UInt8)) (rts:List (DL)):Bool:=cond (cond (cond (cond (decide (128 < (ins.length:Int))) (true) (decide (128 < (scs.length:Int)))) (true) (decide (128 < (pas.length:Int)))) (true) (decide (128 < (rts.length:Int)))) (false) (EK ins scs pas rts scs)
noncomputable def V1:Code:=Tryz.f9.body.getD .skip
def kp:=Ad 1 ([.code V1])
def YC:=AB 60 (AP kp)
def tM:=AB 60 (AG YC)
def YB:=AB 60 (AL YC)
def R8:=AB 60 (Ay YB)
def ko:=AB (BA Ai 90 (AG R8)) (AG R8)
def km:=AB 60 (AE (AE ko))
def kk:=AB 60 (AE km)
def tL:=AB 60 (AG kk)
def YA:=AB 60 (AL R8)
def Ov:=AB 60 (Ay YA)
def aV:=AB (BA Ai 90 (AG Ov)) (AG Ov)
def aU:=Ad 12 (AE (AE aV))
def S7:=AB 60 (AP aU)
def qG:=AB 60 (AG S7)
def S6:=AB 60 (AL S7)
def Ou:=AB 60 (Ay S6)
def aT:=AB (BA Ai 90 (AG Ou)) (AG Ou)
def aS:=Ad 17 (AE (AE aT))
def aR:=AB 60 (AP aS)
def qF:=AB 60 (AG aR)
def aQ:=AB 60 (AL Ou)
def aP:=AB 60 (AE aQ)
def qE:=AB 60 (AG aP)
def qD:=AB 60 (AL Ov)
theorem Ro (m:Option Addr) (ins:List (List UInt8)) (p:Nat) (j:Option Addr) (scs:List (List (Int×Int×Int))) (h:Nat) (l:Option Addr) (pas:List (List UInt8)) (o:Nat) (t:Option Addr) (rts:List (DL)) (d:Nat) (w:World) (s3:rowsStr w m ins) (e3:ins.length≤4294967296) (f1:rowsSc w j scs) (b3:scs.length≤4294967296) (r3:rowsStr w l pas) (d3:pas.length≤4294967296) (t0:rowsRt w t rts) (c3:rts.length≤4294967296) (x1:∀ e∈scs,e.length≤4294967296) (y1:∀ e∈rts,e.2.2.2.2.2.length≤4294967296):Calls Tryz.prog 9 ([.agg ⟨[.slice m ins.length p,.slice j scs.length h,.slice l pas.length o,.slice t rts.length d]⟩]:List Value).toArray w fun e w'=>e=.returned (.bool ((DP ins scs pas rts)))∧Below w.heap.size w w':=by
 refine Af (fn:=Tryz.f9) (c:=V1) (n:=84) ?_
 have K1:=Wk.start w
 let z8:List BI:=[⟨w.heap.size,0,[.slice m ins.length p,.slice j scs.length h,.slice l pas.length o,.slice t rts.length d],43,true⟩]
 refine CR 1 kp z8 K1 [] fun w1 K2=>?_
 refine Ao K2 [(1,0,0),(6,0,1),(12,0,2),(18,0,3)] [] K2.G (fun sp c0=>by cases c0) fun w2 E2 K3=>?_
 refine AC YC K3 [] fun w3 K4=>?_
 refine AM (cond (cond (cond (decide (128 < (ins.length:Int))) (true) (decide (128 < (scs.length:Int)))) (true) (decide (128 < (pas.length:Int)))) (true) (decide (128 < (rts.length:Int)))) (fun c4=>?_) (fun c4=>?_)
 ·refine AC tM K4 [] fun w5 K5=>?_
  have hS:(DP ins scs pas rts)=false:=by unfold DP; rw [c4] <;> rfl
  exact Ab K5 (0,0) (.bool false) ⟨by rw [hS] <;> rfl,K5.B⟩
 ·refine AC YB K4 [(0,1)] fun w6 K6=>?_
  have K7:Wk w w6 z8 [] []:=K6.pk [0] []
  have b0:(DP ins scs pas rts)=EK ins scs pas rts scs:=by unfold DP; rw [c4] <;> rfl
  let z9:Option Addr:=some ⟨w.heap.size,0,none⟩
  refine BB [(1,.pointer z9),(2,.bool false),(32,.slice j scs.length h),(33,D ((scs.length:Int))),(34,D (((0:Nat):Int)))] fun E7=>?_
  refine Bi (by kernel_rfl) (fun E t1=>∃ (i0:Nat) (E0:Nat→Value),i0≤scs.length∧E=Aw E0 [(1,.pointer z9),(2,.bool false),(32,.slice j scs.length h),(33,D ((scs.length:Int))),(34,D ((i0:Int)))]∧(DP ins scs pas rts)=EK ins scs pas rts (List.drop i0 scs)∧Wk w t1 z8 [] []) (fun E _=>scs.length - AQ (E 34)) ⟨0,E7,Nat.zero_le _,rfl,b0,K7⟩ ?_
  clear b0
  rintro E t1 ⟨i0,E0,y5,rfl,b0,K8⟩ r0
  refine AC R8 K8 [] fun w9 K9=>?_
  refine AM (decide ((i0:Int) < (scs.length:Int))) (fun q1=>?_) (fun q1=>?_)
  ·have k0:i0 < scs.length:=by have:=of_decide_eq_true q1; omega
   obtain ⟨e0,d1⟩:∃ e,scs[i0]?=some e:=⟨_,List.getElem?_eq_getElem k0⟩
   rw [M2 i0 e0 d1] at b0
   obtain ⟨q,r,rfl,v0,w0⟩:=f1.all (by omega)
   obtain ⟨i,b,f0,y⟩:=w0 i0 _ d1
   refine BG Ai ko K9 [] fun u5 a3=>?_
   refine BH (g:=q) (off:=r) (cap:=h) (sz:=1) (k:=i0) (len:=scs.length) (some 36) k0 Tryz.underlying40 ?_
   refine EA 27 q (r + i0 * 1) (.slice i e0.length b) (some 37) (by simpa using Ac f0 v0 a3.B 0 _ rfl) ?_
   refine AC km a3 [] fun q3 z2=>?_
   refine Ap z2 (args:=[.slice i e0.length b]) (QN i e0 b q3 (y.below z2.B) (by exact x1 _ (List.mem_of_getElem? d1))) fun t5 r4=>?_
   refine AC kk r4 [] fun s5 y2=>?_
   refine AM (!(Fa e0)) (fun p1=>?_) (fun p1=>?_)
   ·refine AC tL y2 [] fun r5 x2=>?_
    have hS:(DP ins scs pas rts)=false:=by rw [b0,p1] <;> rfl
    exact Ab x2 (0,0) (.bool false) ⟨by rw [hS] <;> rfl,x2.B⟩
   ·refine AC (Aj YB) y2 [] fun m3 q4=>?_
    refine BB [(1,.pointer z9),(2,.bool false),(32,.slice (some ⟨q,r,none⟩) scs.length h),(33,D ((scs.length:Int))),(34,D (IntKind.i64.wrap ((i0:Int) + 1)))] fun w4=>?_
    have m4:Wk w m3 [⟨w.heap.size,0,[.slice m ins.length p,.slice (some ⟨q,r,none⟩) scs.length h,.slice l pas.length o,.slice t rts.length d],43,true⟩] [] []:=q4.pk [0] []
    rw [Bs i0 (by omega)]
    refine r0 _ _ ⟨i0 + 1,w4,k0,rfl,by rw [b0,p1] <;> rfl,m4⟩ ?_
    show scs.length - AQ (D ((i0 + 1:Nat):Int)) < scs.length - AQ (D (i0:Int))
    simp only [AQ]
    omega
  ·have a2:i0=scs.length:=by have:=of_decide_eq_false q1; omega
   rw [a2,List.drop_length,NY] at b0
   refine AC YA K9 [(0,3)] fun l3 k4=>?_
   have i4:Wk w l3 z8 [] []:=k4.pk [0] []
   have a0:(DP ins scs pas rts)=DR ins scs pas rts rts 0:=by rw [b0] <;> rfl
   refine BB [(1,.pointer z9),(2,.bool false),(43,.slice t rts.length d),(44,D ((rts.length:Int))),(45,D (((0:Nat):Int)))] fun v4=>?_
   refine Bi (by kernel_rfl) (fun E s1=>∃ (s:Nat) (E0:Nat→Value),s≤rts.length∧E=Aw E0 [(1,.pointer z9),(2,.bool false),(43,.slice t rts.length d),(44,D ((rts.length:Int))),(45,D ((s:Int)))]∧(DP ins scs pas rts)=DR ins scs pas rts (List.drop s rts) s∧Wk w s1 z8 [] []) (fun E _=>rts.length - AQ (E 45)) ⟨0,v4,Nat.zero_le _,rfl,a0,i4⟩ ?_
   clear a0
   rintro E s1 ⟨s,E0,x5,rfl,a0,h4⟩ q0
   refine AC Ov h4 [] fun q5 v2=>?_
   refine AM (decide ((s:Int) < (rts.length:Int))) (fun n1=>?_) (fun n1=>?_)
   ·have d0:s < rts.length:=by have:=of_decide_eq_true n1; omega
    obtain ⟨a,z0⟩:∃ e,rts[s]?=some e:=⟨_,List.getElem?_eq_getElem d0⟩
    rw [M1 s a z0] at a0
    obtain ⟨q,r,rfl,v0,w0⟩:=t0.all (by omega)
    obtain ⟨i,b,f0,y⟩:=w0 s _ z0
    refine BG Ai aV v2 [] fun z u2=>?_
    refine BH (g:=q) (off:=r) (cap:=d) (sz:=6) (k:=s) (len:=rts.length) (some 48) d0 Tryz.underlying41 ?_
    let z7:List Value:=[.string ⟨⟨a.1⟩⟩,.bool (a.2.1),D a.2.2.1,D a.2.2.2.1,D a.2.2.2.2.1,.slice i a.2.2.2.2.2.length b]
    refine CC 49 q (r + s * 6) z7 (some 49) (Ac f0 v0 u2.B) ?_
    let z6:List Value:=[.slice m ins.length p,.slice j scs.length h,.slice l pas.length o,.slice (some ⟨q,r,none⟩) rts.length d]
    let z10:List BI:=[⟨w.heap.size,0,z6,43,true⟩,⟨z.heap.size,0,z7,49,true⟩]
    refine CR 12 aU z10 u2 [(1,0)] fun m5 t2=>?_
    let z11:=(a.2.2.2.2.2.length:Int)
    refine Ao t2 [(1,1,5),(5,1,0)] [⟨6,[(55,.agg ⟨z7⟩)],.bool (Eo a.2.1 a.2.2.1 a.2.2.2.1 a.2.2.2.2.1),(!(decide (4096 < z11))) && (true)⟩] t2.G (fun sp c0=>?_) fun k5 a6 g4=>?_
    ·rw [List.mem_singleton.1 c0]
     exact AX 24 [.tmp 55] [.agg ⟨z7⟩] (fun _=>by kernel_rfl) fun hc u hu=>AR hu (NQ a.1 a.2.1 a.2.2.1 a.2.2.2.1 a.2.2.2.2.1 i a.2.2.2.2.2.length b u)
    refine AC S7 g4 [] fun i5 s2=>?_
    refine AM (cond (decide (4096 < z11)) (true) (!(Eo a.2.1 a.2.2.1 a.2.2.2.1 a.2.2.2.2.1))) (fun m1=>?_) (fun m1=>?_)
    ·refine AC qG s2 [] fun h5 r2=>?_
     have hS:(DP ins scs pas rts)=false:=by rw [a0,m1] <;> rfl
     exact Ab r2 (0,0) (.bool false) ⟨by rw [hS] <;> rfl,r2.B⟩
    ·refine AC S6 s2 [(1,5)] fun k3 f4=>?_
     have e4:Wk w k3 z10 [] []:=f4.pk [0,1] []
     have x4:a.2.2.2.2.2.length≤4294967296:=y1 _ (List.mem_of_getElem? z0)
     have x:(DP ins scs pas rts)=D1 ins scs pas rts s (cond (!((DV a.2.2.2.2.2))) (false) (DR ins scs pas rts (List.drop (s + 1) rts) (s + 1))) a.2.2.2.2.2 0:=by rw [a0,m1] <;> rfl
     refine BB [(1,.pointer z9),(2,.bool false),(5,D ((s:Int))),(6,.pointer (some ⟨z.heap.size,0,none⟩)),(43,.slice (some ⟨q,r,none⟩) rts.length d),(44,D ((rts.length:Int))),(45,D ((s:Int))),(60,.slice i a.2.2.2.2.2.length b),(61,D (z11)),(62,D (((0:Nat):Int)))] fun u4=>?_
     refine Bi (by kernel_rfl) (fun E r1=>∃ (v:Nat) (E0:Nat→Value),v≤a.2.2.2.2.2.length∧E=Aw E0 [(1,.pointer z9),(2,.bool false),(5,D ((s:Int))),(6,.pointer (some ⟨z.heap.size,0,none⟩)),(43,.slice (some ⟨q,r,none⟩) rts.length d),(44,D ((rts.length:Int))),(45,D ((s:Int))),(60,.slice i a.2.2.2.2.2.length b),(61,D (z11)),(62,D ((v:Int)))]∧(DP ins scs pas rts)=D1 ins scs pas rts s (cond (!((DV a.2.2.2.2.2))) (false) (DR ins scs pas rts (List.drop (s + 1) rts) (s + 1))) (List.drop v a.2.2.2.2.2) v∧LF a.2.2.2.2.2 v∧Wk w r1 z10 [] []) (fun E _=>a.2.2.2.2.2.length - AQ (E 62)) ⟨0,u4,Nat.zero_le _,rfl,x,by exact VQ _,e4⟩ ?_
     clear x
     rintro E r1 ⟨v,E0,v5,rfl,x,b2,b4⟩ p0
     refine AC Ou b4 [] fun g5 q2=>?_
     refine AM (decide ((v:Int) < z11)) (fun k1=>?_) (fun k1=>?_)
     ·have h0:v < a.2.2.2.2.2.length:=by have:=of_decide_eq_true k1; omega
      obtain ⟨f,c1⟩:∃ e,a.2.2.2.2.2[v]?=some e:=⟨_,List.getElem?_eq_getElem h0⟩
      rw [M0 v f c1] at x
      obtain ⟨x0,y0,rfl,c2,d2⟩:=y.all (by omega)
      have v1:=d2 v _ c1
      refine BG Ai aT q2 [] fun i3 p2=>?_
      refine BH (g:=x0) (off:=y0) (cap:=b) (sz:=6) (k:=v) (len:=a.2.2.2.2.2.length) (some 65) h0 Tryz.underlying47 ?_
      refine CC 53 x0 (y0 + v * 6) [D f.1,D f.2.1,D f.2.2.1,D f.2.2.2.1,D f.2.2.2.2.1,D f.2.2.2.2.2] (some 66) (Ac v1 c2 p2.B) ?_
      refine CR 17 aS [⟨w.heap.size,0,z6,43,true⟩,⟨z.heap.size,0,[.string ⟨⟨a.1⟩⟩,.bool (a.2.1),D a.2.2.1,D a.2.2.2.1,D a.2.2.2.2.1,.slice (some ⟨x0,y0,none⟩) a.2.2.2.2.2.length b],49,true⟩,⟨i3.heap.size,0,[D f.1,D f.2.1,D f.2.2.1,D f.2.2.2.1,D f.2.2.2.2.1,D f.2.2.2.2.2],53,true⟩] p2 [(2,0)] fun f5 a1=>?_
      refine Ao a1 [(0,2,0),(4,0,0),(7,2,0)] [⟨1,[(67,.agg ⟨[D f.1,D f.2.1,D f.2.2.1,D f.2.2.2.1,D f.2.2.2.2.1,D f.2.2.2.2.2]⟩)],.bool (Dc f.1 f.2.2.1 f.2.2.2.1 f.2.2.2.2.1 f.2.2.2.2.2),true⟩,⟨8,[(71,.agg ⟨z6⟩),(72,D ((s:Int))),(73,D ((v:Int))),(74,.agg ⟨[D f.1,D f.2.1,D f.2.2.1,D f.2.2.2.1,D f.2.2.2.2.1,D f.2.2.2.2.2]⟩)],.bool ((CZ ins.length scs.length pas.length rts s (v:Int) f.1 f.2.1)),(!(!(Dc f.1 f.2.2.1 f.2.2.2.1 f.2.2.2.2.1 f.2.2.2.2.2))) && (true)⟩] a1.G (fun sp c0=>?_) fun e5 z5 a4=>?_
      ·rcases List.mem_cons.1 c0 with rfl | c0
       ·exact AX 25 [.tmp 67] [.agg ⟨[D f.1,D f.2.1,D f.2.2.1,D f.2.2.2.1,D f.2.2.2.2.1,D f.2.2.2.2.2]⟩] (fun _=>by kernel_rfl) fun hc u hu=>AR hu (OW f.1 f.2.1 f.2.2.1 f.2.2.2.1 f.2.2.2.2.1 f.2.2.2.2.2 u)
       obtain rfl:=List.mem_singleton.1 c0
       exact AX 26 [.tmp 71,.tmp 72,.tmp 73,.tmp 74] [.agg ⟨z6⟩,D ((s:Int)),D ((v:Int)),.agg ⟨[D f.1,D f.2.1,D f.2.2.1,D f.2.2.2.1,D f.2.2.2.2.1,D f.2.2.2.2.2]⟩] (fun _=>by kernel_rfl) fun hc u hu=>AR hu (SO m ins.length p j scs.length h l pas.length o (some ⟨q,r,none⟩) rts d s (v:Int) f.1 f.2.1 f.2.2.1 f.2.2.2.1 f.2.2.2.2.1 f.2.2.2.2.2 u (t0.below (a1.B.trans (hu.mono a1.B.size))) (by first | assumption | omega | (simp <;> omega)) d0)
      refine AC aR a4 [] fun d5 m2=>?_
      refine AM (cond (!(Dc f.1 f.2.2.1 f.2.2.2.1 f.2.2.2.2.1 f.2.2.2.2.2)) (true) (!((CZ ins.length scs.length pas.length rts s (v:Int) f.1 f.2.1)))) (fun h1=>?_) (fun h1=>?_)
      ·refine AC qF m2 [] fun c5 l2=>?_
       have hS:(DP ins scs pas rts)=false:=by rw [x,h1] <;> rfl
       exact Ab l2 (0,0) (.bool false) ⟨by rw [hS] <;> rfl,l2.B⟩
      ·refine AC (Aj S6) m2 [] fun h3 z3=>?_
       refine BB [(1,.pointer z9),(2,.bool false),(5,D ((s:Int))),(6,.pointer (some ⟨z.heap.size,0,none⟩)),(43,.slice (some ⟨q,r,none⟩) rts.length d),(44,D ((rts.length:Int))),(45,D ((s:Int))),(60,.slice (some ⟨x0,y0,none⟩) a.2.2.2.2.2.length b),(61,D (z11)),(62,D (IntKind.i64.wrap ((v:Int) + 1)))] fun t4=>?_
       have y3:Wk w h3 [⟨w.heap.size,0,z6,43,true⟩,⟨z.heap.size,0,[.string ⟨⟨a.1⟩⟩,.bool (a.2.1),D a.2.2.1,D a.2.2.2.1,D a.2.2.2.2.1,.slice (some ⟨x0,y0,none⟩) a.2.2.2.2.2.length b],49,true⟩] [] []:=z3.pk [0,1] []
       rw [Bs v (by omega)]
       refine p0 _ _ ⟨v + 1,t4,h0,rfl,by rw [x,h1] <;> rfl,by exact UL b2 c1 z0 (by assumption),y3⟩ ?_
       show a.2.2.2.2.2.length - AQ (D ((v + 1:Nat):Int)) < a.2.2.2.2.2.length - AQ (D (v:Int))
       simp only [AQ]
       omega
     ·have b1:v=a.2.2.2.2.2.length:=by have:=of_decide_eq_false k1; omega
      rw [b1,List.drop_length,NW] at x
      refine AC aQ q2 [(1,5)] fun g3 k2=>?_
      refine CJ (U3 i a.2.2.2.2.2 b g3 (y.below k2.B) (by first | assumption | omega | (simp <;> omega)) (VR b2 b1)) fun en b5 hh=>?_
      obtain ⟨rfl,t3⟩:=hh
      refine ⟨_,rfl,?_⟩
      have x3:=k2.below t3
      refine AC aP x3 [] fun a5 h2=>?_
      refine AM (!((DV a.2.2.2.2.2))) (fun g1=>?_) (fun g1=>?_)
      ·refine AC qE h2 [] fun z4 g2=>?_
       have hS:(DP ins scs pas rts)=false:=by rw [x,g1] <;> rfl
       exact Ab g2 (0,0) (.bool false) ⟨by rw [hS] <;> rfl,g2.B⟩
      ·refine AC (Aj YA) h2 [] fun f3 v3=>?_
       refine BB [(1,.pointer z9),(2,.bool false),(43,.slice (some ⟨q,r,none⟩) rts.length d),(44,D ((rts.length:Int))),(45,D (IntKind.i64.wrap ((s:Int) + 1)))] fun s4=>?_
       have u3:Wk w f3 [⟨w.heap.size,0,z6,43,true⟩] [] []:=v3.pk [0] []
       rw [Bs s (by omega)]
       refine q0 _ _ ⟨s + 1,s4,d0,rfl,by rw [x,g1] <;> rfl,u3⟩ ?_
       show rts.length - AQ (D ((s + 1:Nat):Int)) < rts.length - AQ (D (s:Int))
       simp only [AQ]
       omega
   ·have z1:s=rts.length:=by have:=of_decide_eq_false n1; omega
    rw [z1,List.drop_length,NX] at a0
    refine AC qD v2 [] fun y4 f2=>?_
    have hS:(DP ins scs pas rts)=true:=by rw [a0] <;> rfl
    exact Ab f2 (0,0) (.bool true) ⟨by rw [hS] <;> rfl,f2.B⟩
end
end Go.Proofs.YtmcpjkcggfmcmaaGreatDoor

/- Contracts of functions, part 32. -/
import Derived.Test.YtkjbdagicjbjjaaGreatTs31
set_option linter.all false
namespace Go.Proofs.YtkjbdagicjbjjaaGreat
noncomputable section
open Go.RowKit
set_option maxRecDepth 100000
set_option maxHeartbeats 1000000
def Fy:Nat→Ex→Prop
 | 0,_=>False
 | h + 1,x=>H3 (x.op,x.nm,x.cnt,0,0)∧x.ks.length≤4294967296∧(x.op=12∨x.op=13→∃ a b,x.ks=[a,b])∧(x.op=18→∃ a b c,x.ks=[a,b,c])∧EX x.num∧EX x.den∧∀ k∈x.ks,Fy h k
theorem Xc (w:World) (g:Nat) (d:Bool) (r o m:Option Nat) (n:Option Addr) (pa:List Dk) (t:Nat) (l:List (Ao×Int×Int)) (nm:List (List UInt8×Int×Int)) (f:List (List UInt8×Gy)) (e0:Cf.optAt r l w) (a0:Ez.optAt o nm w) (y:Eg.optAt m (f.map fun q=>(q.1,FI q.2)) w) (v:∀ q∈f,Cs w q.2.2.1 q.2.1∧q.2.1.length≤4294967296) (z:EW w n pa) (c0:pa.length≤4294967296) (b0:∀ e∈pa,e.2.length≤4294967296) (j:∀ h k s,Fy h k→Dg s.1→Dg (BH (Bi d l nm f pa) h k s).2.1) (u:∀ h k s,Fy h k→Dg s.1→EX (BH (Bi d l nm f pa) h k s).1.1∧EX (BH (Bi d l nm f pa) h k s).1.2.1):∀ (h:Nat) (x:Ex),Fy h x→MF 39 w g d r o m n pa.length t (BH (Bi d l nm f pa) h) x
 | 0,_,hx=>hx.elim
 | h + 1,x,hx=>by
  obtain ⟨h1,h2,h3,h4,_,_,h5⟩:=hx
  have ih:∀ k∈x.ks,MF 39 w g d r o m n pa.length t (BH (Bi d l nm f pa) h) k:=fun k hk=>Xc w g d r o m n pa t l nm f e0 a0 y v z c0 b0 j u h k (h5 k hk)
  have d0:∀ k∈x.ks,∀ s,DI (nE k) s (BH (Bi d l nm f pa) h k s).2:=fun k _ s=>HH _ h k s
  have p:∀ k∈x.ks,∀ s,Dg s.1→Dg (BH (Bi d l nm f pa) h k s).2.1:=fun k hk s hs=>j h k s (h5 k hk) hs
  cases hl:Mh x.op with
  | false=>
   exact Xf w g d r o m n pa t l nm f e0 a0 y v z c0 b0 h x hl (fun a b ha hb=>⟨h1.1,h1.2.1,(show EX 0 from ⟨by decide,by decide⟩),ha,hb⟩) h2 ih (fun _ k hk s hs=>u h k s (h5 k hk) hs) p
  | true=>
   refine Xe w g d r o m n pa t l nm f e0 a0 y v z c0 b0 h x hl h1 fun hc=>?_
   rw [Bool.or_eq_true,Bool.or_eq_true,beq_iff_eq,beq_iff_eq,beq_iff_eq] at hc
   rcases hc with hc | hc | hc
   ·obtain ⟨a,b,c,i⟩:=h4 hc
    exact Yn w g d r o m n _ t _ x a b c hc i ih d0 p
   ·obtain ⟨a,b,i⟩:=h3 (.inl hc)
    exact Yo w g d r o m n _ t _ x a b hc i ih d0 p
   obtain ⟨a,b,i⟩:=h3 (.inr hc)
   exact Ym w g d r o m n _ t _ x a b hc i ih d0 p
def kp (s s':Cq):Prop:=Dg s.1→Dg s'.1
theorem kp.refl (s:Cq):kp s s:=fun h=>h
theorem kp.trans {s s' b:Cq} (h:kp s s') (c:kp s' b):kp s b:=fun a=>c (h a)
theorem XH (F:Ao→Int×Int×Int) (b:∀ p,EX (F p).1∧EX (F p).2.1) (p:Ao) (s:Cq):kp s (Cu F p s).2:=by
 unfold Cu
 split
 ·exact kp.refl _
 cases !((F p).2.2 == 0)
 ·intro h q a
  rcases List.mem_cons.1 a with rfl | a
  ·exact b p
  exact h q a
 exact kp.refl _
theorem Pi (f:Ex→Cq→C0):∀ (ks:List Ex) (_:∀ k∈ks,∀ s,kp s (f k s).2) (i:Nat) (a b:Int×Int) (s:Cq),kp s (Cy f ks i a b s).2.2.2
 | [],_,_,_,_,s=>kp.refl _
 | k :: r,hf,i,a,b,s=>by
  have d:=hf k (by simp) s
  unfold Cy
  cases !((f k s).1.2.2 == 0)
  ·exact d.trans (Pi f r (fun e c=>hf e (by simp [c])) _ _ _ _)
  exact d
theorem gr (f:Ex→Cq→C0) (x:Ex) (hf:∀ k∈x.ks,∀ s,kp s (f k s).2) (s:Cq):kp s (CR f x s).2:=by
 unfold CR
 split
 ·rename_i k0 k1 r hk
  rw [hk] at hf
  have a:=hf k0 (by simp) s
  have b:=hf k1 (by simp) (f k0 s).2
  cases !((f k0 s).1.2.2 == 0)
  ·show kp s (cond _ _ _:C0).2
   cases (x.op == 12 && ((f k0 s).1.1 == 0))
   ·show kp s (cond _ _ _:C0).2
    cases (x.op == 13 && !((f k0 s).1.1 == 0))
    ·show kp s (cond _ _ _:C0).2
     cases (x.op == 18 && ((f k0 s).1.1 == 0))
     ·exact a.trans b
     cases r with
     | nil=>exact kp.refl _
     | cons k2 r=>exact a.trans (hf k2 (by simp) (f k0 s).2)
    exact a
   exact a
  exact a
 exact kp.refl _
theorem Gp (F:Ao→Int×Int×Int) (d:∀ p,EX (F p).1∧EX (F p).2.1):∀ (h:Nat) (x:Ex) (s:Cq),kp s (BH F h x s).2
 | 0,_,_=>kp.refl _
 | h + 1,x,s=>by
  unfold BH
  cases (x.op == 1)
  ·show kp s (cond _ _ _:C0).2
   cases (x.op == 2)
   ·show kp s (cond _ _ _:C0).2
    cases (x.op == 3 || (x.op == 20 || x.op == 21))
    ·show kp s (cond _ _ _:C0).2
     cases (x.op == 18 || (x.op == 12 || x.op == 13))
     ·have c:=Pi (BH F h) x.ks (fun k _ s=>Gp F d h k s) 0 (0,0) (0,0) s
      show kp s (match Cy (BH F h) x.ks 0 (0,0) (0,0) s with
       | (e,a,b,s')=>cond (!(e == 0)) ((0,0,e),s') (cond (x.op == 4) (Cu F (x.op,x.nm,0,a.1,a.2) s') (Cj x a.1 a.2 b.1 b.2,s'))).2
      generalize Cy (BH F h) x.ks 0 (0,0) (0,0) s=q at c ⊢
      obtain ⟨e,a,b,s'⟩:=q
      show kp s (cond _ _ _:C0).2
      cases !(e == 0)
      ·show kp s (cond _ _ _:C0).2
       cases (x.op == 4)
       ·exact c
       exact c.trans (XH F d _ s')
      exact c
     exact (gr (BH F h) x (fun k _ s=>Gp F d h k s) s)
    exact (XH F d _ s)
   exact kp.refl _
  exact kp.refl _
def vR (r:Int×Int×Int):Prop:=EX r.1∧EX r.2.1
theorem Mi:EX 0:=⟨by decide,by decide⟩
theorem EV (e:Int):vR (0,0,e):=⟨Mi,Mi⟩
theorem vR.of {a b e:Int} (f:-2000000000000≤a) (h2:a≤2000000000000) (d:-2000000000000≤b) (c:b≤2000000000000):vR (a,b,e):=
 ⟨⟨by show _≤a; omega,by show a≤_; omega⟩,⟨by show _≤b; omega,by show b≤_; omega⟩⟩
theorem vR.iff {c:Bool} {a b:Int×Int×Int} (ha:vR a) (hb:vR b):vR (cond c a b):=by cases c <;> assumption
theorem vR.valid {n d:Int} (e:Int) (h:AV n d=true):vR (n,d,e):=by
 have:=C1 h
 exact vR.of (by omega) (by omega) (by omega) (by omega)
theorem vR.ifv {n d:Int} {c:Bool} {a b:Int×Int×Int} (ha:vR a) (hb:AV n d=true→vR b):vR (cond (!(AV n d)) a b):=by
 cases h:AV n d
 ·exact ha
 exact hb h
theorem ZE (neg:Bool) (n d:Nat):vR (Li neg n d):=by
 unfold Li
 cases h:(decide (1000000000000 < n / Nat.gcd n d) || decide (1000000 < d / Nat.gcd n d))
 ·rw [Bool.or_eq_false_iff] at h
  have c:=of_decide_eq_false h.1
  have h2:=of_decide_eq_false h.2
  generalize n / Nat.gcd n d=x at c ⊢
  generalize d / Nat.gcd n d=y at h2 ⊢
  cases neg
  ·exact vR.of (a:=(x:Int)) (b:=(y:Int)) (by omega) (by omega) (by omega) (by omega)
  exact vR.of (a:=-(x:Int)) (b:=(y:Int)) (by omega) (by omega) (by omega) (by omega)
 exact EV 4
theorem R6 (n d:Int):vR (KZ n d):=vR.iff (EV 5) (ZE _ _ _)
theorem Ot (neg:Bool) (a b c d:Nat):vR (Fk neg a b c d):=vR.iff (ZE _ _ _) (EV 4)
theorem wg (a b c d:Int):vR (FF a b c d):=vR.iff (EV 1) (R6 _ _)
theorem wE (a b c d:Int):vR (PK a b c d):=vR.iff (EV 1) (R6 _ _)
theorem wL (a b c d:Int):vR (Pc a b c d):=vR.iff (EV 1) (Ot _ _ _ _ _)
theorem ZK (a b c d:Int):vR (Ks a b c d):=vR.iff (EV 1) (vR.iff (EV 5) (Ot _ _ _ _ _))
theorem lx (a b c d m:Int):vR (H8 a b c d m):=vR.iff (EV 1) (vR.iff (EV 2) (R6 _ _))
theorem wK (a b:Int):vR (Ni a b):=vR.ifv (c:=true) (EV 1) fun h=>by
 have:=C1 h
 exact vR.of (by omega) (by omega) (by omega) (by omega)
theorem XB (n:Nat):∀ (l:List (Int×Int)) (s:Int×Int),vR (II n l s)
 | [],s=>ZK _ _ _ _
 | e :: tl,s=>vR.iff (EV _) (XB n tl _)
theorem p7 (n:Nat):∀ l:List (Int×Int),vR (f2 n l)
 | []=>EV 16
 | x :: tl=>XB n tl x
theorem p6 (l:List (Int×Int)):vR (OS l):=vR.iff (EV 3) (vR.iff (EV 1) (p7 _ _))
theorem Yq (l:List Dk) (nm:List UInt8) (n:Int):vR (Hq l nm n):=vR.iff (EV 2) (vR.iff (EV 16) (p6 _))
theorem qB (l:List Dk) (nm:List UInt8) (n:Int):vR (LN l nm n):=vR.iff (EV 2) (vR.iff (EV 16) (vR.ifv (c:=true) (EV 1) fun h=>vR.valid 0 h))
theorem gC (es:List Gd) (b c:Int):vR (Dc es b c):=by
 refine vR.iff (EV 3) (vR.iff (EV 1) ?_)
 cases h:es.any M2
 ·refine vR.iff (a:=(0,0,16)) (EV 16) ?_
  generalize (HS es b c es 0 (-1)).toNat=k
  cases hk:es[k]? with
  | none=>rw [List.getD_eq_getElem?_getD,hk]; exact EV 0
  | some e=>
   rw [List.getD_eq_getElem?_getD,hk]
   show vR (e.2.1,e.2.2,0)
   rw [List.any_eq_false] at h
   have he:=h e (List.mem_of_getElem? hk)
   cases hv:AV e.2.1 e.2.2
   ·exact absurd (show M2 e=true by unfold M2; rw [hv]; rfl) he
   exact vR.valid 0 hv
 exact EV 1
theorem Pp (e:Bool) (b:List (Ao×Int×Int)) (a:Dg b) (nm:List (List UInt8×Int×Int)) (d:List (List UInt8×Gy)) (pa:List Dk) (p:Ao):vR (Bi e b nm d pa p):=by
 refine vR.iff ?_ (vR.iff ?_ (vR.iff ?_ (vR.iff (Yq _ _ _) (qB _ _ _))))
 ·cases h:AH b p with
  | none=>exact EV 16
  | some v=>exact a _ (EM h)
 ·cases h:AH nm p.2.1 with
  | none=>exact EV 16
  | some v=>exact vR.ifv (c:=true) (EV 1) fun h=>vR.valid 0 h
 cases h:AH d p.2.1 with
 | none=>exact EV 16
 | some v=>exact gC _ _ _
theorem KO (b:Bool):vR ((Di b).1,(Di b).2,0):=by cases b <;> exact vR.of (by decide) (by decide) (by decide) (by decide)
theorem YY (x:Ex) (a b c d:Int) (g:EX a) (h2:EX b) (f:EX c) (e:EX d):vR (Cj x a b c d):=
 vR.iff (wg _ _ _ _) (vR.iff (wE _ _ _ _) (vR.iff (wL _ _ _ _) (vR.iff (ZK _ _ _ _) (vR.iff (wK _ _) (vR.iff (KO _) (vR.iff (KO _) (vR.iff (KO _) (vR.iff (vR.iff ⟨f,e⟩ ⟨g,h2⟩) (vR.iff (vR.iff ⟨f,e⟩ ⟨g,h2⟩) (vR.iff (KO _) (vR.iff (lx _ _ _ _ _) (EV 1))))))))))))
theorem XF (F:Ao→Int×Int×Int) (a:∀ p,vR (F p)) (p:Ao) (s:Cq) (h:Dg s.1):vR (Cu F p s).1:=by
 unfold Cu
 split
 ·rename_i v hv
  exact h _ (EM hv)
 cases !((F p).2.2 == 0)
 ·exact a p
 exact EV _
theorem Ph (f:Ex→Cq→C0):∀ (ks:List Ex) (_:∀ k∈ks,∀ s,kp s (f k s).2) (_:∀ k∈ks,∀ s,Dg s.1→vR (f k s).1) (i:Nat) (a b:Int×Int) (s:Cq) (_:Dg s.1) (_:vR (a.1,a.2,0)) (_:vR (b.1,b.2,0)),vR ((Cy f ks i a b s).2.1.1,(Cy f ks i a b s).2.1.2,0)∧vR ((Cy f ks i a b s).2.2.1.1,(Cy f ks i a b s).2.2.1.2,0)
 | [],_,_,_,_,_,_,_,ha,hb=>⟨ha,hb⟩
 | k :: r,hk,hv,i,a,b,s,hs,ha,hb=>by
  have e:=hk k (by simp) s hs
  have h2:=hv k (by simp) s hs
  unfold Cy
  cases !((f k s).1.2.2 == 0)
  ·refine Ph f r (fun d c=>hk d (by simp [c])) (fun d c=>hv d (by simp [c])) _ _ _ _ e ?_ ?_
   ·cases i == 0
    ·exact ha
    exact h2
   cases i == 1
   ·exact hb
   exact h2
  exact ⟨ha,hb⟩
theorem gj (f:Ex→Cq→C0) (x:Ex) (a:∀ k∈x.ks,∀ s,kp s (f k s).2) (hv:∀ k∈x.ks,∀ s,Dg s.1→vR (f k s).1) (s:Cq) (hs:Dg s.1):vR (CR f x s).1:=by
 unfold CR
 split
 ·rename_i k0 k1 r hx
  rw [hx] at a hv
  have b:=a k0 (by simp) s hs
  cases !((f k0 s).1.2.2 == 0)
  ·show vR (cond _ _ _:C0).1
   cases (x.op == 12 && ((f k0 s).1.1 == 0))
   ·show vR (cond _ _ _:C0).1
    cases (x.op == 13 && !((f k0 s).1.1 == 0))
    ·show vR (cond _ _ _:C0).1
     cases (x.op == 18 && ((f k0 s).1.1 == 0))
     ·exact hv k1 (by simp) _ b
     cases r with
     | nil=>exact EV 1
     | cons k2 r=>exact hv k2 (by simp) _ b
    exact vR.of (by decide) (by decide) (by decide) (by decide)
   exact vR.of (by decide) (by decide) (by decide) (by decide)
  exact EV _
 exact EV 1
theorem My (F:Ao→Int×Int×Int) (c:∀ p,vR (F p)):∀ (h:Nat) (x:Ex) (s:Cq),Fy h x→Dg s.1→vR (BH F h x s).1
 | 0,_,_,hx,_=>hx.elim
 | h + 1,x,s,hx,hs=>by
  obtain ⟨m,h2,l,j,i,g,f⟩:=hx
  unfold BH
  cases (x.op == 1)
  ·show vR (cond _ _ _:C0).1
   cases (x.op == 2)
   ·show vR (cond _ _ _:C0).1
    cases (x.op == 3 || (x.op == 20 || x.op == 21))
    ·show vR (cond _ _ _:C0).1
     cases (x.op == 18 || (x.op == 12 || x.op == 13))
     ·have d:=Pi (BH F h) x.ks (fun k _ s=>Gp F c h k s) 0 (0,0) (0,0) s hs
      have hv:=Ph (BH F h) x.ks (fun k _ s=>Gp F c h k s) (fun k d s hs=>My F c h k s (f k d) hs) 0 (0,0) (0,0) s hs (EV 0) (EV 0)
      show vR (match Cy (BH F h) x.ks 0 (0,0) (0,0) s with
       | (e,a,b,s')=>cond (!(e == 0)) ((0,0,e),s') (cond (x.op == 4) (Cu F (x.op,x.nm,0,a.1,a.2) s') (Cj x a.1 a.2 b.1 b.2,s'))).1
      generalize Cy (BH F h) x.ks 0 (0,0) (0,0) s=q at d hv ⊢
      obtain ⟨e,a,b,s'⟩:=q
      show vR (cond _ _ _:C0).1
      cases !(e == 0)
      ·show vR (cond _ _ _:C0).1
       cases (x.op == 4)
       ·exact YY x _ _ _ _ hv.1.1 hv.1.2 hv.2.1 hv.2.2
       exact XF F c _ s' d
      exact EV _
     exact gj (BH F h) x (fun k _ s=>Gp F c h k s) (fun k d s hs=>My F c h k s (f k d) hs) s hs
    exact XF F c _ s hs
   exact KO _
  exact ⟨i,g⟩
theorem wW (w:World) (g:Nat) (c:Bool) (t i d:Option Nat) (f:Option Addr) (pa:List Dk) (u:Nat) (b:List (Ao×Int×Int)) (nm:List (List UInt8×Int×Int)) (a:List (List UInt8×Gy)) (hr:Dg b) (r:Cf.optAt t b w) (n:Ez.optAt i nm w) (l:Eg.optAt d (a.map fun q=>(q.1,FI q.2)) w) (j:∀ q∈a,Cs w q.2.2.1 q.2.1∧q.2.1.length≤4294967296) (m:EW w f pa) (p:pa.length≤4294967296) (o:∀ e∈pa,e.2.length≤4294967296) (h:Nat) (x:Ex) (hx:Fy h x):MF 39 w g c t i d f pa.length u (BH (Bi c b nm a pa) h) x:=
 Xc w g c t i d f pa u b nm a r n l j m p o (fun h k s _ hs=>Gp _ (Pp c b hr nm a pa) h k s hs) (fun h k s v hs=>My _ (Pp c b hr nm a pa) h k s v hs) h x hx
attribute [local irreducible] BD BP AC AD AF Ar AZ AM Aw Bk C6 BV EE C5 BO At Fr
def BJ (F:Ao→Int×Int×Int) (h:Nat) (d:Df) (s:Cq):C0:=cond (!((BH F h d.body s).1.2.2 == 0)) ((0,0,(BH F h d.body s).1.2.2),(BH F h d.body s).2) (cond (d.kind == 4) (H8 (BH F h d.body s).1.1 (BH F h d.body s).1.2.1 d.num d.den d.mode,(BH F h d.body s).2) (BH F h d.body s))
noncomputable def aE:Code:=Tryz.f25.body.getD .skip
def s6:=ν [.code aE]
def dC:=Ω s6
def ADZ:=Ξ dC
def dB:=Ψ dC
def s5:=Ξ dB
def ADY:=Ω s5
def ADX:=Ψ dB
theorem Ny (w:World) (g:Nat) (i:Bool) (s o k:Option Nat) (m:Option Addr) (pa:List Dk) (t:Nat) (x:List (Ao×Int×Int)) (nm:List (List UInt8×Int×Int)) (v:List (List UInt8×Gy)) (hr:Dg x) (i0:Cf.optAt s x w) (e0:Ez.optAt o nm w) (b0:Eg.optAt k (v.map fun q=>(q.1,FI q.2)) w) (a0:∀ q∈v,Cs w q.2.2.1 q.2.1∧q.2.1.length≤4294967296) (d0:EW w m pa) (h0:pa.length≤4294967296) (g0:∀ e∈pa,e.2.length≤4294967296) (h:Nat) (d:Df) (hd:Fy h d.body) (Z:List Th) (kA:Option Nat) (p:List (Ao×Int×Int)) (z:Option Addr) (j:List DP) (y:Nat) (A1:Option Addr) (c1:Nat) (A2:Option Addr) (c2:Nat) (u:World) (hx:rowsEx w A2 d.body.ks) (k0:p.length + nE d.body≤4294967296) (j0:j.length + nE d.body≤4294967296) (c0:Dg p) (B:Below (ε w) w u) (H:Aj (ε w) u ([Th.ent (DC g i s o k m pa.length t (kA) (z) (j.length) (y)),Cf.thO kA p,CH z y j]++Z)) :
  Calls Tryz.prog 25 ([ζ g,ψ (Bg d A1 c1 A2 c2)]:List Value).toArray u fun e w'=>∃ kA' uA' uc',e=.returned (DT (BJ (Bi i x nm v pa) h d (p,j)).1)∧Below (ε w) w w'∧Aj (ε w) w' ([Th.ent (DC g i s o k m pa.length t (kA') (uA') ((BJ (Bi i x nm v pa) h d (p,j)).2.2.length) (uc')),Cf.thO kA' (BJ (Bi i x nm v pa) h d (p,j)).2.1,CH uA' uc' (BJ (Bi i x nm v pa) h d (p,j)).2.2]++Z):=by
 refine AS (fn:=Tryz.f25) (c:=aE) (n:=31) ?_
 have K0:Wk w u [(DC g i s o k m pa.length t (kA) (z) (j.length) (y))] [Cf.thO kA p,CH z y j] Z:=⟨B,H⟩
 clear B H
 refine Ah s6 [(DC g i s o k m pa.length t (kA) (z) (j.length) (y)),ι (ε u) (Bg d A1 c1 A2 c2) 59,ι (ε u + 1) [δ 0,δ 0] 41] K0 [(1,8)] fun w1 K1=>?_
 refine BA (wW w g i s o k m pa t x nm v hr i0 e0 b0 a0 d0 h0 g0 h d.body hd _ kA p z j y A2 c2 w1 hx k0 j0 c0 K1.B K1.lend) fun en w2 hh=>?_
 obtain ⟨f,b,a,rfl,b2,Hn⟩:=hh
 refine ⟨_,rfl,?_⟩
 have K2:=Wk.unlend b2 Hn
 unfold BJ
 generalize hR:(BH (Bi i x nm v pa) h d.body (p,j))=r at K2 ⊢
 obtain ⟨⟨r1,r2,r3⟩,l⟩:=r
 refine Ah dC [(DC g i s o k m pa.length t (f) (b) (l.2.length) (a)),ι (ε u) (Bg d A1 c1 A2 c2) 59,ι (ε u + 1) [δ 0,δ 0] 41,ι (ε w2) (BT (r1,r2)) 41] K2 [(3,0)] fun w3 K3=>?_
 refine AG (!(r3 == 0)) (fun cE=>?_) (fun cE=>?_)
 ·refine Am ADZ K3 [(2,0)] fun w4 K4=>?_
  refine AK K4 (2,0) (.tuple #[ψ [δ 0,δ 0],δ r3]) ?_
  rw [show (!((r3:Int) == 0))=true from cE]
  exact ⟨f,b,a,rfl,K4.B,(K4.pk [0] [0,1] (M':=[(DC g i s o k m pa.length t (f) (b) (l.2.length) (a))]) (L':=[Cf.thO f l.1,CH b a l.2])).H⟩
 rw [show (!((r3:Int) == 0))=false from cE]
 refine AB dB K3 [(1,0)] fun w4 K4=>?_
 refine AG (d.kind == 4) (fun c3=>?_) (fun c3=>?_)
 ·refine AB s5 K4 [(3,0),(1,19),(1,18)] fun w5 K5=>?_
  refine AP K5 (args:=[ψ (BT (r1,r2)),ψ (BT (d.num,d.den)),δ d.mode]) (Qy r1 r2 d.num d.den d.mode w5) fun w6 K6=>?_
  refine Am ADY K6 [(2,0)] fun w7 K7=>?_
  refine AK K7 (2,0) (DT (H8 r1 r2 d.num d.den d.mode)) ?_
  rw [c3]
  exact ⟨f,b,a,rfl,K7.B,(K7.pk [0] [0,1] (M':=[(DC g i s o k m pa.length t (f) (b) (l.2.length) (a))]) (L':=[Cf.thO f l.1,CH b a l.2])).H⟩
 refine Am ADX K4 [(3,0),(2,0)] fun w5 K5=>?_
 refine AK K5 (2,0) (.tuple #[ψ (BT (r1,r2)),δ 0]) ?_
 obtain rfl:r3=0:=by simpa using cE
 rw [c3]
 exact ⟨f,b,a,rfl,K5.B,(K5.pk [0] [0,1] (M':=[(DC g i s o k m pa.length t (f) (b) (l.2.length) (a))]) (L':=[Cf.thO f l.1,CH b a l.2])).H⟩
end
end Go.Proofs.YtkjbdagicjbjjaaGreat
namespace Go.Proofs.YtkjbdagicjbjjaaGreat
noncomputable section
open Go.RowKit
set_option maxRecDepth 100000
set_option maxHeartbeats 1000000
attribute [local irreducible] BD BP AC AD AF Ar AZ AM Aw Bk C6 BV BO At Fr
def F6 (p1:Int):List (Nat)→Nat→Int→Int
 | [],i0,a0_0=>-1
 | e0 :: tl,i0,a0_0=>cond (p1 == (e0:Int)) ((i0:Int)) (F6 p1 tl (i0 + 1) a0_0)
theorem TO {p1:Int} {b:Nat} {a:Int}:F6 p1 [] b a=(-1):=by rw [F6]
theorem R9 {p1:Int} {b:Int} {es:List (Nat)} (a c:Nat) (hi:es[a]?=some c):F6 p1 (es.drop a) a b=(cond (p1 == (c:Int)) ((a:Int)) (F6 p1 (es.drop (a + 1)) (a + 1) b)):=by
 have hl:a < es.length:=(List.getElem?_eq_some_iff.1 hi).1
 have he:es[a]=c:=(List.getElem?_eq_some_iff.1 hi).2
 rw [← List.getElem_cons_drop hl,F6] <;> (try rw [he])
def Lz (l:List (Nat)) (p1:Int):Int:=F6 p1 l 0 0
noncomputable def nK:Code:=Tryz.f82.body.getD .skip
def o0:=ν ([.code nK])
def eQ:=ν (Ar o0)
def AAH:=AA (An Ae 90 (AD eQ)) (AD eQ)
def AAG:=ν (AC (AC AAH))
def AFe:=Ξ AAG
def AFd:=Ψ eQ
theorem gL (j:Option Addr) (l:List (Nat)) (f:Nat) (p1:Int) (w:World) (x:rowsNat w j l) (d0:l.length≤4294967296):Calls Tryz.prog 82 ([τ j l.length f,δ p1]:List Value).toArray w fun e w'=>e=.returned (δ (Lz l p1))∧Below (ε w) w w':=by
 refine AS (fn:=Tryz.f82) (c:=nK) (n:=19) ?_
 have K1:=Wk.start w
 refine AB o0 K1 [] fun w1 K2=>?_
 have K3:Wk w w1 [] [] []:=K2.pk [] []
 have b:(Lz l p1)=F6 p1 l 0 0:=by unfold Lz; rfl
 refine AU [(0,τ j l.length f),(1,δ p1),(4,δ 0),(7,δ ((l.length:Int))),(8,δ (((0:Nat):Int)))] fun E2=>?_
 refine Bo (by kernel_rfl) (fun E p=>∃ (a:Nat) (d:Int) (E0:Nat→Value),a≤l.length∧E=BE E0 [(0,τ j l.length f),(1,δ p1),(4,δ d),(7,δ ((l.length:Int))),(8,δ ((a:Int)))]∧(Lz l p1)=F6 p1 (List.drop a l) a d∧Wk w p [] [] []) (fun E _=>l.length - AL (E 8)) ⟨0,0,E2,Nat.zero_le _,rfl,b,K3⟩ ?_
 clear b
 rintro E p ⟨a,d,E0,h0,rfl,b,K4⟩ i
 refine AB eQ K4 [] fun w4 K5=>?_
 refine AG (decide ((a:Int) < (l.length:Int))) (fun c5=>?_) (fun c5=>?_)
 ·have h:a < l.length:=by have:=of_decide_eq_true c5; omega
  obtain ⟨y,s⟩:∃ e,l[a]?=some e:=⟨_,List.getElem?_eq_getElem h⟩
  rw [R9 a y s] at b
  obtain ⟨m,o,rfl,t,u⟩:=x.all (by omega)
  have q:=u a _ s
  refine Ak Ae AAH K5 [] fun w6 K6=>?_
  refine Ay (g:=m) (off:=o) (cap:=f) (sz:=1) (k:=a) (len:=l.length) (some 14) h Tryz.underlying22 ?_
  refine Dz 3 m (o + a * 1) (δ ((y:Int))) (some 15) (by simpa using Ag q t K6.B 0 _ rfl) ?_
  refine AB AAG K6 [] fun w7 K7=>?_
  refine AG (p1 == (y:Int)) (fun z=>?_) (fun z=>?_)
  ·refine AB AFe K7 [] fun w9 K8=>?_
   exact AO K8 (0,0) _ (by rw [b,z] <;> rfl)
  refine AB (AZ o0) K7 [] fun v K9=>?_
  refine AU [(0,τ (some ⟨m,o,none⟩) l.length f),(1,δ p1),(4,δ d),(7,δ ((l.length:Int))),(8,δ (IntKind.i64.wrap ((a:Int) + 1)))] fun c0=>?_
  have b0:Wk w v [] [] []:=K9.pk [] []
  rw [Bl a (by omega)]
  refine i _ _ ⟨a + 1,d,c0,h,rfl,by rw [b,z] <;> rfl,b0⟩ ?_
  show l.length - AL (δ ((a + 1:Nat):Int)) < l.length - AL (δ (a:Int))
  simp only [AL]
  omega
 have r:a=l.length:=by have:=of_decide_eq_false c5; omega
 rw [r,List.drop_length,TO] at b
 refine AB AFd K5 [] fun g0 a0=>?_
 exact AO a0 (0,0) _ (by rw [b] <;> rfl)
def F9 (l:List (Nat)) (p1:Int):Bool:=decide (0≤Lz l p1)
noncomputable def nN:Code:=Tryz.f56.body.getD .skip
def AAI:=ν ([.code nN])
def AFg:=Ω AAI
theorem TR (a:Option Addr) (l:List (Nat)) (b:Nat) (p1:Int) (w:World) (f:rowsNat w a l) (d:l.length≤4294967296):Calls Tryz.prog 56 ([τ a l.length b,δ p1]:List Value).toArray w fun e w'=>e=.returned (ξ (F9 l p1))∧Below (ε w) w w':=by
 refine AS (fn:=Tryz.f56) (c:=nN) (n:=9) ?_
 have k:=Wk.start w
 refine AB AAI k [] fun h g=>?_
 refine AP g (args:=[τ a l.length b,δ p1]) (gL _ l _ p1 h (f.below g.B) d) fun o j=>?_
 refine AB AFg j [] fun m i=>?_
 exact AO i (0,0) _ (by unfold F9; rfl)
def DY (p0a:List UInt8) (ds:List (Df)) (p1:Int) (i:Nat):List Nat×Int:=cond (!(C7 p0a ds p1 == 0)) (([],C7 p0a ds p1)) (cond (cond (!(F9 (Aa ds p1) (i:Int))) (true) (!(Ac (ds.getD i default)))) (([],16)) ((((CI ds (Aa ds p1) i)).1,((CI ds (Aa ds p1) i)).2)))
noncomputable def nt:Code:=Tryz.f38.body.getD .skip
def AA6:=ν ([.code nt])
def pX:=Ω AA6
def AGE:=Ξ pX
def AA5:=Ψ pX
def AA4:=Al 5 (AC AA5)
def pW:=AI AA4
def AGD:=Ξ pW
def AA3:=Ψ pW
def AGC:=Ω AA3
theorem oC (a:List UInt8) (f:Option Addr) (ds:List (Df)) (b:Nat) (p1:Int) (i:Nat) (w:World) (l:rowsDf w f ds) (b0:ds.length≤4294967296) (m:i < ds.length) (hs:a.length≤4294967296) (ht:∀ d∈ds,Fc d) (m0:∀ d∈ds,Dm d.body) (hn:∀ d∈ds,nE d.body≤1000000):Calls Tryz.prog 38 ([ψ [η a,τ f ds.length b],δ p1,δ ((i:Int))]:List Value).toArray w fun e w'=>∃ (j0:Option Addr) (i0:Nat),e=.returned (.tuple #[τ j0 ((((DY a ds p1 i)).1).length) i0,δ (((DY a ds p1 i)).2)])∧Below (ε w) w w'∧Aj (ε w) w' [BS j0 i0 (((DY a ds p1 i)).1)]:=by
 refine AS (fn:=Tryz.f38) (c:=nt) (n:=38) ?_
 have K1:=Wk.start w
 refine Ah AA6 [ι (ε w) [η a,τ f ds.length b] 27] K1 [(0,0)] fun w1 K2=>?_
 refine AP K2 (args:=[ψ [η a,τ f ds.length b],δ p1]) (M1 a _ ds _ p1 w1 (l.below K2.B) b0 hs ht) fun w2 K3=>?_
 refine AB pX K3 [] fun w3 K4=>?_
 refine AG (!(C7 a ds p1 == 0)) (fun c4=>?_) (fun c4=>?_)
 ·have K5:=K4.addNil 3 1 (fun e r=>r=Fw e)
  refine AB AGE K5 [] fun w5 K6=>?_
  have hS:(DY a ds p1 i)=([],C7 a ds p1):=by unfold DY; rw [c4] <;> rfl
  exact AK K6 (0,0) (.tuple #[τ none 0 0,δ (C7 a ds p1)]) ⟨none,0,by rw [hS] <;> rfl,K6.B,by rw [hS]; exact K6.own0 [0] rfl (by decide)⟩
 refine AB AA5 K4 [(0,0)] fun w6 K7=>?_
 refine BA (M5 a f ds b p1 w6 (l.below K7.B) (by first | assumption | omega | (simp <;> omega))) fun en w8 hh=>?_
 obtain ⟨t,o,rfl,b8,Hn⟩:=hh
 refine ⟨_,rfl,?_⟩
 have K8:=K7.join b8 Hn
 have e1:=JR (ds:=ds) (p1:=p1)
 refine As 5 AA4 K8 [] fun w9 q=>?_
 obtain ⟨y,z,rfl,a0,p0⟩:=l.all (by omega)
 have s0:ds[i]?=some (κ ds i):=getD_some default m
 obtain ⟨k,h,j,g,l0,d0,c0⟩:=p0 i _ s0
 refine Av q [(6,0,1),(9,1,0)] [⟨2,[(19,τ t ((Aa ds p1).length) o),(20,δ ((i:Int)))],ξ (F9 (Aa ds p1) (i:Int)),true⟩,⟨8,[(25,τ (some ⟨y,z,none⟩) ds.length b),(26,δ ((i:Int)))],.pointer (some ⟨y,z + i * 21,none⟩),(!(!(F9 (Aa ds p1) (i:Int)))) && (true)⟩,⟨10,[(28,ψ ((ω (κ ds i) k h j g)))],ξ (Ac (κ ds i)),(!(!(F9 (Aa ds p1) (i:Int)))) && (true)⟩] (Mn (x:=⟨y,z + i * 21,ω (κ ds i) k h j g,59,false⟩) q.G ⟨Nat.lt_of_lt_of_le a0 q.B.size,Ag l0 a0 q.B⟩) (fun sp k0=>?_) fun d1 f1 x0=>?_
 ·simp only [List.mem_cons,List.not_mem_nil,or_false] at k0
  rcases k0 with rfl | rfl | rfl
  ·exact AY 56 [.tmp 19,.tmp 20] _ (fun _=>by kernel_rfl) fun hc u hu=>AQ hu (TR t (Aa ds p1) o (i:Int) u ((q.H.rowsNat (q.ix 0) (q.at 0 rfl)).below hu) (by first | assumption | omega | (simp <;> omega)))
  ·exact BQ fun _ E u _=>CE (sz:=21) (cap:=b) 25 (.tmp 25) (.tmp 26) m Tryz.underlying25
  exact AY 57 [.tmp 28] _ (fun _=>by kernel_rfl) fun hc u hu=>AQ hu (Gx (κ ds i) k h j g u (d0.below (q.B.trans (hu.mono q.B.size))) (c0.below (q.B.trans (hu.mono q.B.size))))
 refine AB pW x0 [] fun c1 q0=>?_
 refine AG (cond (!(F9 (Aa ds p1) (i:Int))) (true) (!(Ac (κ ds i)))) (fun e0=>?_) (fun e0=>?_)
 ·have w0:=q0.addNil 3 1 (fun e r=>r=Fw e)
  refine AB AGD w0 [] fun b1 h0=>?_
  have hS:(DY a ds p1 i)=([],16):=by unfold DY; rw [c4,e0] <;> rfl
  exact AK h0 (0,0) (.tuple #[τ none 0 0,δ 16]) ⟨none,0,by rw [hS] <;> rfl,h0.B,by rw [hS]; exact h0.own0 [1] rfl (by decide)⟩
 refine AB AA3 q0 [(0,0)] fun r0 s=>?_
 refine BA (Sy a (some ⟨y,z,none⟩) ds b t (Aa ds p1) o i r0 (l.below s.B) (by first | assumption | omega | (simp <;> omega)) (s.H.rowsNat (s.ix 0) (s.at 0 rfl)) (by first | assumption | omega | (simp <;> omega)) m Ed m0 hn) fun en a1 hh=>?_
 obtain ⟨v,p,rfl,t0,Hn⟩:=hh
 refine ⟨_,rfl,?_⟩
 have v0:=s.join t0 Hn
 refine AB AGC v0 [] fun z0 g0=>?_
 have hS:(DY a ds p1 i)=(((CI ds (Aa ds p1) i)).1,((CI ds (Aa ds p1) i)).2):=by unfold DY; rw [c4,e0] <;> rfl
 exact AK g0 (0,0) (.tuple #[τ v ((((CI ds (Aa ds p1) i)).1).length) p,δ (((CI ds (Aa ds p1) i)).2)]) ⟨v,p,by rw [hS] <;> rfl,g0.B,by rw [hS]; exact g0.own0 [1] rfl (by decide)⟩
end
end Go.Proofs.YtkjbdagicjbjjaaGreat
namespace Go.Proofs.YtkjbdagicjbjjaaGreat
open Go.RowKit
set_option maxRecDepth 100000
set_option maxHeartbeats 1000000
def H2 (A:Option Addr) (c:Nat) (l:List Nat):Th where
 F k:=∃ off,A=some ⟨k,off,none⟩
 P w:=∃ g off cur,A=some ⟨g,off,none⟩∧w.heap[g]?=some (.cells cur 3 (0,0))∧l.length≤c∧off + c≤cur.size∧∀ (i:Nat) e,l[i]?=some e→cur[off + i]?=some (δ (e:Int))
 fr _ _ h _ hk:=by
  obtain ⟨g,off,cur,h1,h2,h3⟩:=h
  exact ⟨g,off,cur,h1,(hk g ⟨off,h1⟩ (Array.getElem?_eq_some_iff.1 h2).1).trans h2,h3⟩
section
variable {b:Nat} {w:World} {L:List Th}
theorem S0:∀ l:List Nat,(l.map Fw).flatten=l.map fun (e:Nat)=>Value.int .i64 (e:Int)
 | []=>rfl
 | x :: l=>by rw [List.map_cons,List.flatten_cons,S0 l]; rfl
theorem H2.of (h:Aj b w L) (i:Nat) {A:Option Addr} {c:Nat} {l:List Nat} (hi:L[i]?=some (BS A c l)) (hl:0 < l.length):Aj b w (L.set i (H2 A c l)):=by
 obtain ⟨rs,hr,ho⟩:(BS A c l).P w:=h.all i _ hi
 have d:=IU hr
 rcases ho.2 with ⟨_,p⟩ | ⟨g,cap,a,n,_,hg,hc,_,hs,ht⟩
 ·omega
 cases n
 refine h.set i hi (Nat.le_refl _) ⟨g,0,a,rfl,hg,hc,by omega,fun j e he=>?_⟩ (fun k m=>?_) (fun _ _ _=>rfl)
 ·have o:j < l.length:=(List.getElem?_eq_some_iff.1 he).1
  rw [d,S0] at ht
  have h2:(a.toList.take (l.length * 1))[j]?=some (δ (e:Int)):=by rw [ht,List.getElem?_map,he]; rfl
  rw [List.getElem?_take,if_pos (by omega)] at h2
  rw [Nat.zero_add,← Array.getElem?_toList]
  exact h2
 obtain ⟨off,ho⟩:=m
 have f:g=k:=by have:=Option.some.inj ho; injection this
 subst f
 refine ⟨(Array.getElem?_eq_some_iff.1 hg).1,.inl ?_⟩
 show some (⟨g,0,none⟩:Addr)=θ g
 rfl
theorem H2.rows (h:Aj b w L) (i:Nat) {A:Option Addr} {c:Nat} {l:List Nat} (hi:L[i]?=some (H2 A c l)):rowsNat w A l:=by
 obtain ⟨g,off,a,rfl,hg,hc,hs,hx⟩:=h.all i _ hi
 refine .inr ⟨g,off,rfl,trivial,(Array.getElem?_eq_some_iff.1 hg).1,fun j r hr k u hu=>?_⟩
 obtain ⟨e,he,rfl⟩:=JA hr
 cases k with
 | zero=>
  obtain rfl:=Option.some.inj (show some _=some u from hu)
  rw [Nat.mul_one,Nat.add_zero,cell_of_row w g (off + j) a _ _ hg]
  exact hx j e he
 | succ k=>simp at hu
theorem H2.cut (h:Aj b w L) (i:Nat) {a:Addr} {c:Nat} {x:Nat} {l:List Nat} (hi:L[i]?=some (H2 (some a) c (x :: l))):Aj b w (L.set i (H2 (if c=1 then some a else (some a).map (·.add (1 * 1))) (c - 1) l)):=by
 obtain ⟨g,off,d,n,hg,hc,hs,hx⟩:=h.all i _ hi
 obtain rfl:=Option.some.inj n
 rw [List.length_cons] at hc
 by_cases h0:c=1
 ·rw [if_pos h0]
  have hl:l=[]:=List.eq_nil_of_length_eq_zero (by omega)
  subst hl
  refine h.set i hi (Nat.le_refl _) ⟨g,off,d,rfl,hg,by simp,by omega,fun j e he=>by simp at he⟩ (fun k f=>⟨?_,.inl f⟩) (fun _ _ _=>rfl)
  exact (h.lo i _ hi k f).2
 rw [if_neg h0]
 refine h.set i hi (Nat.le_refl _) ⟨g,off + 1,d,by rw [Option.map_some,Addr.add_mid],hg,by omega,by omega,fun j e he=>?_⟩ (fun k f=>?_) (fun _ _ _=>rfl)
 ·rw [show off + 1 + j=off + (j + 1) by omega]
  exact hx (j + 1) e he
 obtain ⟨o,ho⟩:=f
 rw [Option.map_some,Addr.add_mid] at ho
 have m:g=k:=by have:=Option.some.inj ho; injection this
 subst m
 exact ⟨(Array.getElem?_eq_some_iff.1 hg).1,.inl ⟨off,rfl⟩⟩
variable {k:Nat} {E:Nat→Value}
theorem l7 (H:Aj b w L) (i:Nat) {A:Option Addr} {c:Nat} {l:List Nat} (hi:L[i]?=some (H2 A c l)) (e g:Nat) (b0:A7.good w ⟨g,0,[Value.int .i64 (e:Int)],3,true⟩) (o:Oper) (s x:Operand) (ho:o.op=.call { callee:=.builtin .append,args:=#[s,x],argTypes:=#[22,22] })
  (hs:A8 k E s=.slice A l.length c) (hx:A8 k E x=.slice (some ⟨g,0,none⟩) 1 1) (e0:l.length + 1≤100000000000) :
  ∃ A' c' w',(execOp (A8 k E) o).run Tryz.prog w=.ok (.value (.slice A' (l++[e]).length c')) w'∧Aj b w' (L.set i (H2 A' c' (l++[e])))∧Below b w w':=by
 obtain ⟨h,off,a,rfl,hg,hc,t0,c0⟩:=H.all i _ hi
 have d:(Tryz.prog.info? 3).map (fun i=>(i.zero.map (·.cells.size),i.size,Nat.ble i.bytes 1024))=some (some 1,1,true):=by kernel_rfl
 obtain ⟨f,h0,z,hz,k0,m,s0⟩:∃ f,Tryz.prog.info? 3=some f∧∃ z,f.zero=some z∧z.cells.size=1∧f.size=1∧f.bytes≤1024:=by
  cases hi:Tryz.prog.info? 3 with
  | none=>rw [hi] at d; cases d
  | some f=>
   rw [hi] at d
   simp only [Option.map_some,Option.some.injEq,Prod.mk.injEq,Option.map_eq_some_iff] at d
   obtain ⟨⟨z,h1,h2⟩,h3,h4⟩:=d
   exact ⟨f,rfl,z,h1,h2,h3,Nat.le_of_ble_eq_true h4⟩
 have ht:Tryz.prog.underlying 22=some (.slice 3):=Tryz.underlying22
 have a0:(l.length + 1) * f.bytes≤140737488355328:=Nat.le_trans (Nat.mul_le_mul e0 s0) (by decide)
 have p:∀ j u,[Value.int .i64 (e:Int)][j]?=some u→w.cell? ((⟨g,0,none⟩:Addr).add j)=some u:=fun j u hu=>by
  rw [Addr.add_mid]
  exact Ec b0 hu rfl (by show 0 + j=0 + j; rfl) rfl
 have m0:=H.lo i _ hi
 have q0:b≤h∧h < w.heap.size:=m0 h ⟨off,rfl⟩
 by_cases hroom:l.length + 1≤c
 ·have hf:=run_firstCells_some (P:=Tryz.prog) w 1 1 ⟨g,0,none⟩ 1 1 [Value.int .i64 (e:Int)] rfl p
  have d0:=run_storeCells_at Tryz.prog h (off + l.length) 3 [Value.int .i64 (e:Int)] 0 a w hg (by simp; omega) (fun v hv=>by rw [List.mem_singleton.1 hv]; rfl)
  have hr:(Builtin.append_ #[22,22] o.type #[.slice (some ⟨h,off,none⟩) l.length c,.slice (some ⟨g,0,none⟩) 1 1]).run Tryz.prog w=.ok (.slice (some ⟨h,off,none⟩) (l.length + 1) c) (w.setRow h (a.toList.take (off + l.length)++[Value.int .i64 (e:Int)]++a.toList.drop (off + l.length + 1)).toArray):=by
   simp only [Nat.add_zero,List.length_singleton] at d0
   simp [Builtin.append_,run_underlying ht,sizeOf,typeInfo,h0,m,Builtin.lenOf,hroom,hf,Addr.add_lit,d0]
  have j0:(a.toList.take (off + l.length)).length=off + l.length:=by have i0:a.toList.length=a.size:=Array.length_toList; rw [List.length_take]; omega
  obtain ⟨nw,n⟩:∃ nw,nw=(a.toList.take (off + l.length)++[Value.int .i64 (e:Int)]++a.toList.drop (off + l.length + 1)).toArray:=⟨_,rfl⟩
  rw [← n] at hr
  refine ⟨some ⟨h,off,none⟩,c,w.setRow h nw,?_,H.set i hi (by simp [World.setRow]) ⟨h,off,_,rfl,setRow_heap w h a _ _ _ hg,by simp; omega,?_,fun j u r=>?_⟩ (fun q t=>?_) (fun q t l0=>setRow_other w h q _ fun he=>l0 ⟨off,by rw [he]⟩),⟨rfl,rfl,rfl,by simp [World.setRow],fun q t=>setRow_other w h q _ fun he=>by omega⟩⟩
  ·unfold execOp
   simp only [ho,resolve,invoke,builtin,Sem.run_bind,Sem.run_pure,Result.andThen_ok,List.map_toArray,List.map_cons,List.map_nil,hs,hx,hr]
   rw [List.length_append,List.length_singleton]
  ·have i0:a.toList.length=a.size:=Array.length_toList
   rw [n,List.size_toArray,List.length_append,List.length_append,j0,List.length_drop,i0,List.length_singleton]
   omega
  ·rw [n,List.getElem?_toArray,List.append_assoc]
   rcases EP r with r | ⟨v0,r⟩
   ·have g0:j < l.length:=(List.getElem?_eq_some_iff.1 r).1
    rw [List.getElem?_append_left (by omega),List.getElem?_take,if_pos (by omega),Array.getElem?_toList]
    exact c0 j u r
   have p0:j - l.length=0:=by have:=(List.getElem?_eq_some_iff.1 r).1; simp at this; omega
   rw [p0] at r
   obtain rfl:=Option.some.inj (show some e=some u from r)
   rw [List.getElem?_append_right (by omega),j0,show off + j - (off + l.length)=0 by omega]
   rfl
  obtain ⟨o2,y⟩:=t
  refine ⟨?_,.inl ⟨o2,y⟩⟩
  have:h=q:=by have:=Option.some.inj y; injection this
  rw [← this]
  simpa [World.setRow] using q0.2
 have hr:=run_append_grow (P:=Tryz.prog) w 22 o.type 3 f z ht h0 hz ⟨h,off,none⟩ l.length c (l.map fun (e:Nat)=>Value.int .i64 (e:Int)) (by rw [List.length_map,m,Nat.mul_one]) (fun j v hv=>by
  obtain ⟨u,hu,rfl⟩:=JA hv
  rw [Addr.add_mid,cell_of_row w h (off + j) a _ _ hg]
  exact c0 j u hu) ⟨g,0,none⟩ 1 1 [Value.int .i64 (e:Int)] (by rw [m]; rfl) p (by omega) (by omega) (growslice_fits (by omega) a0)
 have r0:=grownCap_ge w (l.length + 1) c 3
 obtain ⟨nw,n⟩:∃ nw,nw=(l.map fun (e:Nat)=>Value.int .i64 (e:Int)).toArray++[Value.int .i64 (e:Int)].toArray++Builtin.zeroCells z.cells (grownCap w (l.length + 1) c 3 - (l.length + 1)):=⟨_,rfl⟩
 rw [← n] at hr
 refine ⟨some ⟨w.heap.size,0,none⟩,_,w.drew.alloc (.cells nw 3),?_,H.set i hi (by simp) ⟨w.heap.size,0,nw,rfl,heap_alloc_new w.drew _,by rw [List.length_append,List.length_singleton]; exact r0,?_,fun j u r=>?_⟩ (fun q t=>?_) (fun q t _=>GX w.drew _ q t),⟨rfl,rfl,rfl,by simp,fun q t=>GX w.drew _ q (Nat.lt_of_lt_of_le t H.base)⟩⟩
 ·unfold execOp
  simp only [ho,resolve,invoke,builtin,Sem.run_bind,Sem.run_pure,Result.andThen_ok,List.map_toArray,List.map_cons,List.map_nil,hs,hx,hr]
  rw [List.length_append,List.length_singleton]
 ·rw [n]
  simp only [Array.size_append,List.size_toArray,size_zeroCells,k0,List.length_map,List.length_singleton,Nat.mul_one]
  omega
 ·have hm:((l++[e]).map fun (e:Nat)=>Value.int .i64 (e:Int))[j]?=some (δ (u:Int)):=by rw [List.getElem?_map,r]; rfl
  rw [List.map_append] at hm
  have g0:j < (l++[e]).length:=(List.getElem?_eq_some_iff.1 r).1
  rw [List.length_append,List.length_singleton] at g0
  rw [Nat.zero_add,n,Array.getElem?_append_left (by simp; omega)]
  simpa using hm
 obtain ⟨o2,y⟩:=t
 have:w.heap.size=q:=by have:=Option.some.inj y; injection this
 subst this
 exact ⟨by simp,.inr (Nat.le_refl _)⟩
end
section
variable {P:Program} {f:FuncId} {R:Ending→World→Prop}
theorem qS {n:Nat} {todo:List Item} {E:Nat→Value} {w:World} (hl:RK todo=true) (I:Nat→(Nat→Value)→World→Prop) (m:Nat) (h:I m E w)
  (round:∀ m E w,I m E w→(∀ a b w',a < m→I a b w'→At P f R (AZ todo) (Fr n b) w')→At P f R (Ar todo) (Fr n E) w):At P f R todo (Fr n E) w:=by
 unfold RK at hl
 split at hl
 ·rename_i c k
  have key:∀ (m:Nat) (E:Nat→Value) (w:World),I m E w→At P f R (.code c :: .inLoop c :: k) (Fr n E) w:=by
   intro m
   induction m using Nat.strongRecOn with
   | _ m ih=>
    intro E w g
    refine round m E w g fun a b w' d e=>?_
    exact Dq (by simp [AZ]) (fun _=>step_inLoop) (ih a d b w' e)
  exact Dq (by simp) (fun _=>step_loop) (key m E w h)
 cases hl
end
end Go.Proofs.YtkjbdagicjbjjaaGreat

/- Contracts of functions, part 42. -/
import Derived.Test.YtkjbdagicjbjjaaGreatTs38
import Derived.Test.YtkjbdagicjbjjaaGreatTs41
set_option linter.all false
namespace Go.Proofs.YtkjbdagicjbjjaaGreat
open Go.RowKit
set_option maxRecDepth 100000
theorem NK {n d:Int} (e:1≤d) (h2:d≤1000000) (c:-1000000000000≤n) (b:n≤1000000000000) (a:Nat.gcd n.natAbs d.natAbs=1):AV n d=true:=decide_eq_true ⟨e,h2,c,b,a⟩
theorem aX {n d:Int} (h:AV n d=true):Nat.gcd n.natAbs d.natAbs=1:=(of_decide_eq_true h).2.2.2.2
def HQ (r:Int×Int×Int):Prop:=r.2.2=0→AV r.1 r.2.1=true
theorem DK {a b e:Int} (h:e≠0):HQ (a,b,e):=fun c=>absurd c h
theorem C9 {c:Bool} {a b:Int×Int×Int} (ha:HQ a) (hb:HQ b):HQ (cond c a b):=by cases c <;> assumption
theorem Ja (b:Bool):HQ ((Di b).1,(Di b).2,0):=fun _=>by cases b <;> decide
theorem ZF (neg:Bool) (n d:Nat) (hd:0 < d):HQ (Li neg n d):=by
 unfold Li
 cases h:(decide (1000000000000 < n / Nat.gcd n d) || decide (1000000 < d / Nat.gcd n d))
 ·intro _
  rw [Bool.or_eq_false_iff,decide_eq_false_iff_not,decide_eq_false_iff_not] at h
  have hg:0 < Nat.gcd n d:=Nat.gcd_pos_of_pos_right n hd
  have b:0 < d / Nat.gcd n d:=Nat.div_pos (Nat.le_of_dvd hd (Nat.gcd_dvd_right n d)) hg
  have hc:Nat.gcd (n / Nat.gcd n d) (d / Nat.gcd n d)=1:=by rw [Nat.gcd_div (Nat.gcd_dvd_left n d) (Nat.gcd_dvd_right n d),Nat.div_self hg]
  show AV (cond neg (-((n / Nat.gcd n d:Nat):Int)) ((n / Nat.gcd n d:Nat):Int)) ((d / Nat.gcd n d:Nat):Int)=true
  generalize n / Nat.gcd n d=a at *
  generalize d / Nat.gcd n d=c at *
  cases neg
  ·exact NK (by omega) (by omega) (by show _≤(a:Int); omega) (by show (a:Int)≤_; omega) (by simpa using hc)
  exact NK (by omega) (by omega) (by show _≤-(a:Int); omega) (by show -(a:Int)≤_; omega) (by simpa using hc)
 exact DK (by decide)
theorem OQ (n d:Int):HQ (KZ n d):=by
 unfold KZ
 cases h:d == 0
 ·have:d≠0:=by simpa using h
  exact ZF _ _ _ (by omega)
 exact DK (by decide)
theorem PA {a b:Nat} (h:0 < a):0 < a / Nat.gcd b a:=Nat.div_pos (Nat.le_of_dvd h (Nat.gcd_dvd_right b a)) (Nat.gcd_pos_of_pos_right b h)
theorem Lb (neg:Bool) (d b c a:Nat) (e:0 < b) (h2:0 < a):HQ (Fk neg d b c a):=by
 unfold Fk
 refine C9 (ZF _ _ _ (Nat.mul_pos (PA e) (PA h2))) (DK (by decide))
theorem gv {a b c d:Int} (h:(cond (!(AV a b)) true (!(AV c d)))=false):AV a b=true∧AV c d=true:=by
 cases h1:AV a b <;> cases h2:AV c d <;> rw [h1,h2] at h <;> first | exact ⟨rfl,rfl⟩ | cases h
theorem IV {a b c d:Int} {r:Int×Int×Int} (h:AV a b=true→AV c d=true→HQ r):HQ (cond (cond (!(AV a b)) true (!(AV c d))) (0,0,1) r):=by
 cases hb:cond (!(AV a b)) true (!(AV c d))
 ·exact h (gv hb).1 (gv hb).2
 exact DK (by decide)
theorem X3 {a b c d:Int} (h:decide (EB a b c d < 0)=true∨decide (0 < EB a b c d)=true):AV a b=true∧AV c d=true:=by
 unfold EB at h
 cases hb:cond (!(AV a b)) true (!(AV c d))
 ·exact gv hb
 rw [hb] at h
 rcases h with h | h <;> cases h
theorem YZ (x:Ex) (a b c d:Int) (h:x.op=14∨x.op=15→AV a b=true):HQ (Cj x a b c d):=by
 unfold Cj
 refine C9 (IV fun _ _=>OQ _ _) (C9 (IV fun _ _=>OQ _ _) (C9 (IV fun e h2=>?_) (C9 (IV fun e h2=>?_) (C9 ?_ (C9 (Ja _) (C9 (Ja _) (C9 (Ja _) ?_)))))))
 ·have:=C1 e
  have:=C1 h2
  exact Lb _ _ _ _ _ (by omega) (by omega)
 ·have:=C1 e
  have:=C1 h2
  cases hc:c == 0
  ·have:c≠0:=by simpa using hc
   exact Lb _ _ _ _ _ (by omega) (by omega)
  exact DK (by decide)
 ·unfold Ni
  cases hv:AV a b
  ·exact DK (by decide)
  have e:=C1 hv
  have h2:=aX hv
  exact fun _=>show AV (-a) b=true from NK e.1 e.2.1 (by show _≤-a; omega) (by show -a≤_; omega) (by rw [Int.natAbs_neg]; exact h2)
 cases h14:x.op == 14
 ·cases h15:x.op == 15
  ·simp only [cond_false]
   refine C9 (Ja _) (C9 (IV fun _ _=>C9 (DK (by decide)) (OQ _ _)) (DK (by decide)))
  have hv:=h (.inr (eq_of_beq h15))
  show HQ (cond _ _ _)
  cases hc:decide (0 < EB c d a b)
  ·exact fun _=>hv
  exact fun _=>(X3 (.inr hc)).1
 have hv:=h (.inl (eq_of_beq h14))
 show HQ (cond _ _ _)
 cases hc:decide (EB c d a b < 0)
 ·exact fun _=>hv
 exact fun _=>(X3 (.inl hc)).1
def vX (F:Ao→Int×Int×Int) (u:DP):Prop:=F u.1=(u.2.1,u.2.2,0)∧AV u.2.1 u.2.2=true∧(u.1.1=4→AV u.1.2.2.2.1 u.1.2.2.2.2=true)
structure IQ (F:Ao→Int×Int×Int) (s:Cq):Prop where
 rev:s.1=s.2.reverse
 nodup:(s.2.map (·.1)).Nodup
 use:∀ u∈s.2,vX F u
def MG (G:Ao→Int×Int×Int) (U:List DP):Prop:=∀ u∈U,G u.1=(u.2.1,u.2.2,0)
theorem MG.pre {G:Ao→Int×Int×Int} {U V:List DP} (h:MG G V) (a:U <+: V):MG G U:=fun u hu=>h u (a.subset hu)
def KC (F:Ao→Int×Int×Int) (f:(Ao→Int×Int×Int)→Cq→C0):Prop:=∀ s,IQ F s→(f F s).1.2.2=0→AV (f F s).1.1 (f F s).1.2.1=true∧IQ F (f F s).2∧s.2 <+: (f F s).2.2∧∀ G,MG G (f F s).2.2→f G s=f F s
theorem XI {α β:Type} [DecidableEq α]:∀ {m:List (α×β)} {a:α},AH m a=none→∀ p∈m,p.1≠a
 | q :: m,a,h,p,b=>by
  rw [AH] at h
  split at h
  ·cases h
  rename_i hne
  rcases List.mem_cons.1 b with rfl | b
  ·exact fun e=>hne (by first | exact e | exact e.symm | exact decide_eq_true e | exact decide_eq_true e.symm)
  exact XI h p b
theorem O1 {F:Ao→Int×Int×Int} (g:∀ p,HQ (F p)) (p:Ao) (e:p.1=4→AV p.2.2.2.1 p.2.2.2.2=true):KC F (fun F=>Cu F p):=fun s hs c=>by
 replace c:(Cu F p s).1.2.2=0:=c
 show AV (Cu F p s).1.1 (Cu F p s).1.2.1=true∧IQ F (Cu F p s).2∧s.2 <+: (Cu F p s).2.2∧∀ G,MG G (Cu F p s).2.2→Cu G p s=Cu F p s
 unfold Cu at c ⊢
 cases hl:AH s.1 p with
 | some v=>
  have hm:(p,v)∈s.2:=by
   have:=EM hl
   rw [hs.rev] at this
   exact List.mem_reverse.1 this
  exact ⟨show AV v.1 v.2=true from (hs.use _ hm).2.1,hs,PT _,fun _ _=>rfl⟩
 | none=>
  rw [hl] at c
  simp only at c ⊢
  cases hf:!((F p).2.2 == 0)
  ·have he:(F p).2.2=0:=bz hf
   have hv:=g p he
   refine ⟨hv,⟨?_,?_,fun u hu=>?_⟩,⟨[(p,(F p).1,(F p).2.1)],rfl⟩,fun G f=>?_⟩
   ·show (p,(F p).1,(F p).2.1) :: s.1=(s.2++[(p,(F p).1,(F p).2.1)]).reverse
    rw [List.reverse_append,hs.rev]
    rfl
   ·show (List.map (·.1) (s.2++[(p,(F p).1,(F p).2.1)])).Nodup
    rw [List.map_append,List.nodup_append]
    refine ⟨hs.nodup,by simp,fun a ha b hb d=>?_⟩
    simp only [List.map_cons,List.map_nil,List.mem_singleton] at hb
    obtain ⟨u,hu,rfl⟩:=List.mem_map.1 ha
    exact XI hl u (by rw [hs.rev]; exact List.mem_reverse.2 hu) (d.trans hb)
   ·replace hu:u∈s.2++[(p,(F p).1,(F p).2.1)]:=hu
    rcases List.mem_append.1 hu with hu | hu
    ·exact hs.use u hu
    rw [List.mem_singleton.1 hu]
    exact ⟨by show F p=((F p).1,(F p).2.1,0); rw [← he],hv,e⟩
   have hg:G p=((F p).1,(F p).2.1,0):=f (p,(F p).1,(F p).2.1) (by show _∈s.2++_; simp)
   rw [hg]
   rfl
  rw [hf] at c
  exact absurd c (bn hf)
theorem O4 {F:Ao→Int×Int×Int} {f:(Ao→Int×Int×Int)→Ex→Cq→C0}:∀ (ks:List Ex) (_:∀ k∈ks,KC F (fun F=>f F k)) (i:Nat) (a b:Int×Int) (s:Cq),IQ F s→(Cy (f F) ks i a b s).1=0→(0 < i→AV a.1 a.2=true)→(ks≠[]∨0 < i→AV (Cy (f F) ks i a b s).2.1.1 (Cy (f F) ks i a b s).2.1.2=true)∧IQ F (Cy (f F) ks i a b s).2.2.2∧s.2 <+: (Cy (f F) ks i a b s).2.2.2.2∧∀ G,MG G (Cy (f F) ks i a b s).2.2.2.2→Cy (f G) ks i a b s=Cy (f F) ks i a b s
 | [],_,i,a,b,s,hs,_,ha=>⟨fun h=>ha (h.resolve_left fun h=>h rfl),hs,PT _,fun _ _=>rfl⟩
 | k :: r,hk,i,a,b,s,hs,h0,ha=>by
  unfold Cy at h0 ⊢
  cases hf:!((f F k s).1.2.2 == 0)
  ·rw [hf] at h0
   simp only [cond_false] at h0 ⊢
   obtain ⟨t,h2,q,p⟩:=hk k (by simp) s hs (bz hf)
   have d:0 < i + 1→AV (cond (i == 0) ((f F k s).1.1,(f F k s).1.2.1) a).1 (cond (i == 0) ((f F k s).1.1,(f F k s).1.2.1) a).2=true:=fun _=>by
    cases hi:i == 0
    ·exact ha (Nat.pos_of_ne_zero (by simpa using hi))
    exact t
   obtain ⟨n,m,g,l⟩:=O4 r (fun o c=>hk o (by simp [c])) (i + 1) (cond (i == 0) ((f F k s).1.1,(f F k s).1.2.1) a) (cond (i == 1) ((f F k s).1.1,(f F k s).1.2.1) b) (f F k s).2 h2 h0 d
   refine ⟨fun _=>n (.inr (Nat.succ_pos i)),m,q.trans g,fun G j=>?_⟩
   have e:=p G (j.pre g)
   simp only at e
   rw [e,hf]
   exact l G j
  rw [hf] at h0
  exact absurd h0 (bn hf)
def DZ (F:Ao→Int×Int×Int) (s:Cq) (g:(Ao→Int×Int×Int)→C0):Prop:=(g F).1.2.2=0→AV (g F).1.1 (g F).1.2.1=true∧IQ F (g F).2∧s.2 <+: (g F).2.2∧∀ G,MG G (g F).2.2→g G=g F
section
variable {F:Ao→Int×Int×Int} {s:Cq}
theorem DZ.cond {c:Bool} {g a:(Ao→Int×Int×Int)→C0} (h:DZ F s g) (b:DZ F s a):DZ F s (fun G=>cond c (g G) (a G)):=by cases c <;> assumption
theorem DZ.val {v:Int×Int×Int} (hs:IQ F s) (h:HQ v):DZ F s (fun _=>(v,s)):=fun a=>⟨h a,hs,PT _,fun _ _=>rfl⟩
theorem DZ.err {s':Cq} {a b e:Int} (h:e≠0):DZ F s (fun _=>((a,b,e),s')):=fun c=>absurd c h
theorem DZ.seq {g:(Ao→Int×Int×Int)→C0} {K:(Ao→Int×Int×Int)→(Int×Int×Int)→Cq→C0} (h:DZ F s g) (i:IQ F (g F).2→AV (g F).1.1 (g F).1.2.1=true→DZ F (g F).2 (fun G=>K G (g F).1 (g F).2)):DZ F s (fun G=>_root_.cond (!((g G).1.2.2 == 0)) ((0,0,(g G).1.2.2),(g G).2) (K G (g G).1 (g G).2)):=fun a=>by
 replace a:(_root_.cond (!((g F).1.2.2 == 0)) ((0,0,(g F).1.2.2),(g F).2) (K F (g F).1 (g F).2):C0).1.2.2=0:=a
 show AV (_root_.cond (!((g F).1.2.2 == 0)) ((0,0,(g F).1.2.2),(g F).2) (K F (g F).1 (g F).2):C0).1.1 (_root_.cond (!((g F).1.2.2 == 0)) ((0,0,(g F).1.2.2),(g F).2) (K F (g F).1 (g F).2):C0).1.2.1=true∧IQ F (_root_.cond (!((g F).1.2.2 == 0)) ((0,0,(g F).1.2.2),(g F).2) (K F (g F).1 (g F).2):C0).2∧s.2 <+: (_root_.cond (!((g F).1.2.2 == 0)) ((0,0,(g F).1.2.2),(g F).2) (K F (g F).1 (g F).2):C0).2.2∧∀ G,MG G (_root_.cond (!((g F).1.2.2 == 0)) ((0,0,(g F).1.2.2),(g F).2) (K F (g F).1 (g F).2):C0).2.2→_root_.cond (!((g G).1.2.2 == 0)) ((0,0,(g G).1.2.2),(g G).2) (K G (g G).1 (g G).2)=(_root_.cond (!((g F).1.2.2 == 0)) ((0,0,(g F).1.2.2),(g F).2) (K F (g F).1 (g F).2):C0)
 cases hf:!((g F).1.2.2 == 0)
 ·rw [hf] at a
  obtain ⟨l,h2,k,j⟩:=h (bz hf)
  obtain ⟨f,e,b,d⟩:=i h2 l a
  refine ⟨f,e,k.trans b,fun G c=>?_⟩
  rw [j G (c.pre b),hf]
  exact d G c
 rw [hf] at a
 exact absurd a (bn hf)
theorem DZ.kids {f:(Ao→Int×Int×Int)→Ex→Cq→C0} {ks:List Ex} {K:(Ao→Int×Int×Int)→Int×Int→Int×Int→Cq→C0} (hs:IQ F s) (h:∀ k∈ks,KC F (fun F=>f F k)) (n:∀ a b s',IQ F s'→(ks≠[]→AV a.1 a.2=true)→DZ F s' (fun G=>K G a b s')):DZ F s (fun G=>match Cy (f G) ks 0 (0,0) (0,0) s with
  | (e,a,b,s')=>_root_.cond (!(e == 0)) ((0,0,e),s') (K G a b s')):=by
 have c:=O4 ks h 0 (0,0) (0,0) s hs
 unfold DZ
 simp only
 generalize hq:Cy (f F) ks 0 (0,0) (0,0) s=q at c ⊢
 obtain ⟨e,a,b,s'⟩:=q
 simp only at c ⊢
 cases hf:!(e == 0)
 ·obtain ⟨h2,r,p,o⟩:=c (bz hf) (fun h=>absurd h (by decide))
  intro d
  obtain ⟨m,l,g,j⟩:=n a b s' r (fun h=>h2 (.inl h)) d
  refine ⟨m,l,p.trans g,fun G i=>?_⟩
  rw [o G (i.pre g)]
  simp only [hf]
  exact j G i
 exact fun d=>absurd d (bn hf)
end
theorem TU {F:Ao→Int×Int×Int} {f:(Ao→Int×Int×Int)→Ex→Cq→C0} (x:Ex) (d:∀ k∈x.ks,KC F (fun F=>f F k)):KC F (fun F=>CR (f F) x):=fun s hs=>by
 show DZ F s (fun G=>CR (f G) x s)
 unfold CR
 have b:∀ a c r,(∀ k∈(a :: c :: r:List Ex),KC F (fun F=>f F k))→DZ F s (fun G=>cond (!((f G a s).1.2.2 == 0)) ((0,0,(f G a s).1.2.2),(f G a s).2) (cond (x.op == 12 && ((f G a s).1.1 == 0)) ((0,1,0),(f G a s).2) (cond (x.op == 13 && !((f G a s).1.1 == 0)) ((1,1,0),(f G a s).2) (cond (x.op == 18 && ((f G a s).1.1 == 0)) (iT (f G) r (f G a s).2 s) (f G c (f G a s).2))))):=fun a c r d=>by
  refine DZ.seq (g:=fun G=>f G a s) (K:=fun G v e=>cond (x.op == 12 && (v.1 == 0)) ((0,1,0),e) (cond (x.op == 13 && !(v.1 == 0)) ((1,1,0),e) (cond (x.op == 18 && (v.1 == 0)) (iT (f G) r e s) (f G c e)))) (d a (by simp) s hs) fun h _=>?_
  refine .cond (.val h fun _=>by decide) (.cond (.val h fun _=>by decide) (.cond ?_ (d c (by simp) _ h)))
  cases r with
  | nil=>exact .err (by decide)
  | cons i r=>exact d i (by simp) _ h
 rcases hx:x.ks with _ | ⟨a,_ | ⟨c,_ | ⟨i,r⟩⟩⟩
 ·exact .err (by decide)
 ·exact .err (by decide)
 ·rw [hx] at d
  exact b a c [] d
 rw [hx] at d
 exact b a c (i :: r) d
def VX:Nat→Ex→Prop
 | 0,_=>False
 | h + 1,x=>(x.op=1→AV x.num x.den=true)∧(x.op=4∨x.op=14∨x.op=15→x.ks≠[])∧∀ k∈x.ks,VX h k
theorem O9 {F:Ao→Int×Int×Int} (e:∀ p,HQ (F p)):∀ (h:Nat) (x:Ex),VX h x→KC F (fun F=>BH F h x)
 | 0,_,hx=>hx.elim
 | h + 1,x,hx=>fun s hs=>by
  obtain ⟨j,g,v3⟩:=hx
  have i:∀ k∈x.ks,KC F (fun F=>BH F h k):=fun k l=>O9 e h k (v3 k l)
  show DZ F s (fun G=>BH G (h + 1) x s)
  unfold BH
  cases h1:x.op == 1
  ·simp only [cond_false]
   refine .cond (.val hs (Ja _)) ?_
   cases h3:(x.op == 3 || (x.op == 20 || x.op == 21))
   ·simp only [cond_false]
    refine .cond (TU (f:=fun G=>BH G h) x i s hs) (DZ.kids (f:=fun G=>BH G h) (K:=fun G a b s'=>cond (x.op == 4) (Cu G (x.op,x.nm,0,a.1,a.2) s') (Cj x a.1 a.2 b.1 b.2,s')) hs i fun a b s' c ha=>?_)
    cases d:x.op == 4
    ·exact .val c (YZ x _ _ _ _ fun h=>ha (g (.inr h)))
    exact O1 e _ (fun _=>ha (g (.inl (eq_of_beq d)))) s' c
   refine O1 e _ (fun d=>?_) s hs
   replace d:x.op=4:=d
   rw [d] at h3
   cases h3
  exact .val hs fun _=>j (eq_of_beq h1)
theorem M9 {F:Ao→Int×Int×Int} (c:∀ p,HQ (F p)) (h:Nat) (d:Df) (hx:VX h d.body):KC F (fun F=>BJ F h d):=fun s hs=>by
 show DZ F s (fun G=>BJ G h d s)
 unfold BJ
 refine DZ.seq (g:=fun G=>BH G h d.body s) (K:=fun G v a=>cond (d.kind == 4) (H8 v.1 v.2.1 d.num d.den d.mode,a) (v,a)) (O9 c h d.body hx s hs) fun b hv=>?_
 exact .cond (.val b (IV fun _ _=>C9 (DK (by decide)) (OQ _ _))) (.val b fun _=>hv)
theorem vP (F:Ao→Int×Int×Int):IQ F ([],[]):=⟨rfl,List.nodup_nil,fun u hu=>by cases hu⟩
theorem XJ (all:List Gd) (a c:Int):∀ (l:List Gd) (i:Nat) (b:Int),all.length=i + l.length→b < (all.length:Int)→HS all a c l i b < (all.length:Int)
 | [],_,_,_,h=>h
 | e :: tl,i,b,hl,h=>by
  rw [HS]
  refine XJ all a c tl (i + 1) _ (by rw [hl,List.length_cons]; omega) ?_
  cases (cond (decide (EB e.1 1 a c≤0)) (cond (decide (b < 0)) true (decide ((all.getD b.toNat default).1 < e.1))) false)
  ·exact h
  show (i:Int) < _
  rw [hl,List.length_cons]
  omega
theorem gD (es:List Gd) (a c:Int):HQ (Dc es a c):=by
 unfold Dc
 refine C9 (DK (by decide)) (C9 (DK (by decide)) ?_)
 cases hb:es.any M2
 ·show HQ (OU es (HS es a c es 0 (-1)))
  unfold OU
  have e:=XJ es a c es 0 (-1) (by simp) (by omega)
  generalize HS es a c es 0 (-1)=b at e ⊢
  cases hc:decide (b < 0)
  ·intro _
   have f:¬ b < 0:=of_decide_eq_false hc
   have d:b.toNat < es.length:=by omega
   have hm:es.getD b.toNat default∈es:=DR d
   have:=(List.any_eq_false.1 hb) _ hm
   unfold M2 at this
   show AV (es.getD b.toNat default).2.1 (es.getD b.toNat default).2.2=true
   cases hv:AV (es.getD b.toNat default).2.1 (es.getD b.toNat default).2.2
   ·rw [hv] at this
    exact absurd rfl this
   rfl
  exact DK (by decide)
 exact DK (by decide)
theorem wY (a b c d:Int):HQ (Ks a b c d):=IV fun e h2=>by
 have:=C1 e
 have:=C1 h2
 cases hc:c == 0
 ·have:c≠0:=by simpa using hc
  exact Lb _ _ _ _ _ (by omega) (by omega)
 exact DK (by decide)
theorem ABb {e:Int} (h:(!(e == 0))=true) (a b:Int):HQ (a,b,e):=DK (bn h)
theorem XC (n:Nat):∀ (l:List (Int×Int)) (s:Int×Int),HQ (II n l s)
 | [],s=>wY _ _ _ _
 | e :: tl,s=>by
  rw [II]
  cases hc:!((FF s.1 s.2 e.1 e.2).2.2 == 0)
  ·exact XC n tl _
  exact ABb hc _ _
theorem XX (nm:List (List UInt8×Int×Int)) (sc:List (List UInt8×List Gd)) (pa:List Dk) (p:Ao):HQ (Bm false [] nm sc pa p):=by
 unfold Bm
 simp only [cond_false]
 refine C9 ?_ (C9 ?_ (C9 ?_ ?_))
 ·cases AH nm p.2.1 with
  | none=>exact DK (by decide)
  | some v=>
   show HQ (cond (!(AV v.1 v.2)) (0,0,1) (v.1,v.2,0))
   cases hv:AV v.1 v.2
   ·exact DK (by decide)
   exact fun _=>hv
 ·cases AH sc p.2.1 with
  | none=>exact DK (by decide)
  | some v=>exact gD v _ _
 ·unfold Hq
  refine C9 (DK (by decide)) (C9 (DK (by decide)) ?_)
  unfold OS
  refine C9 (DK (by decide)) (C9 (DK (by decide)) ?_)
  cases (Db p.2.1 pa).1.take p.2.2.1.toNat with
  | nil=>exact DK (by decide)
  | cons x tl=>exact XC _ tl x
 unfold LN
 refine C9 (DK (by decide)) (C9 (DK (by decide)) ?_)
 generalize (Db p.2.1 pa).1.getD (p.2.2.1.toNat - 1) default=v
 cases hv:AV v.1 v.2
 ·exact DK (by decide)
 exact fun _=>hv
theorem Lm {p:Ao} {v:Int×Int}:∀ (a:List DP) (m:List (Ao×Int×Int)),AH m p=some v→AH (ID a m) p=some v
 | [],_,h=>h
 | u :: r,m,h=>by
  rw [ID]
  cases hc:!(AH m u.1).isSome
  ·exact Lm r m h
  refine Lm r _ ?_
  rw [AH]
  split
  ·rename_i e
   have b:u.1=p:=by first | exact e | exact e.symm
   rw [b,h] at hc
   cases hc
  exact h
theorem N2 {u:DP}:∀ (a:List DP) (m:List (Ao×Int×Int)),u∈a→(a.map (·.1)).Nodup→AH m u.1=none→AH (ID a m) u.1=some u.2
 | x :: r,m,hu,hd,hm=>by
  rw [List.map_cons,List.nodup_cons] at hd
  rw [ID]
  rcases List.mem_cons.1 hu with rfl | hu
  ·rw [hm]
   refine Lm r _ ?_
   rw [AH]
   simp
  have b:x.1≠u.1:=fun e=>hd.1 (by rw [e]; exact List.mem_map_of_mem hu)
  cases hc:!(AH m x.1).isSome
  ·exact N2 r m hu hd.2 hm
  refine N2 r _ hu hd.2 ?_
  rw [AH]
  split
  ·rename_i e
   exact absurd (by first | exact e | exact e.symm) b
  exact hm
theorem Mz (a:Int×Int):HV a a=true:=by unfold HV; simp
theorem NM {h:Nat} {d:Df} {s:GK} {e:C4} {b:List (List UInt8×Int×Int)}:∀ (a:List DP) (m:List (Ao×Int×Int)),(∀ u∈a,Gj s u b=true)→fj h d e (ID a m)=true→Fv h d s e b a m=true
 | [],_,_,h=>h
 | u :: r,m,hs,h=>by
  rw [ID] at h
  rw [Fv,hs u (by simp)]
  show cond _ _ _=true
  cases hc:!(AH m u.1).isSome
  ·rw [hc] at h
   exact NM r m (fun x hx=>hs x (by simp [hx])) h
  rw [hc] at h
  exact NM r _ (fun x hx=>hs x (by simp [hx])) h
theorem wD {s:GK} {nm bf:List (List UInt8×Int×Int)} {pa:List Dk} {u:DP} (hb:∀ x,(AH s.1 x).getD false=false→AH nm x=AH bf x) (hu:vX (Bm false [] nm s.2.2 pa) u):Gj s u bf=true:=by
 obtain ⟨h1,h2,h3⟩:=hu
 unfold Gj
 rw [h2]
 simp only [Bool.not_true,cond_false]
 unfold Bm at h1
 simp only [cond_false] at h1
 cases c3:u.1.1 == 3
 ·rw [c3] at h1
  simp only [cond_false] at h1 ⊢
  cases c4:u.1.1 == 4
  ·rfl
  rw [c4] at h1
  simp only [cond_true] at h1 ⊢
  rw [h3 (eq_of_beq c4)]
  cases hl:AH s.2.2 u.1.2.1 with
  | none=>
   rw [hl] at h1
   have e:(16:Int)=0:=congrArg (fun r:Int×Int×Int=>r.2.2) h1
   exact absurd e (by decide)
  | some es=>
   rw [hl] at h1
   have h4:Dc es u.1.2.2.2.1 u.1.2.2.2.2=(u.2.1,u.2.2,0):=h1
   show cond (cond _ _ _) _ (cond ((Dc es u.1.2.2.2.1 u.1.2.2.2.2).2.2 == 0) (HV ((Dc es u.1.2.2.2.1 u.1.2.2.2.2).1,(Dc es u.1.2.2.2.1 u.1.2.2.2.2).2.1) u.2) false)=true
   rw [h4]
   exact Mz u.2
 rw [c3] at h1
 simp only [cond_true] at h1 ⊢
 cases hr:AH s.2.1 u.1.2.1 with
 | none=>rfl
 | some r=>
  show cond (cond false true _) _ _=true
  cases hi:(AH s.1 u.1.2.1).getD false
  ·have h4:=hb _ hi
   cases hn:AH nm u.1.2.1 with
   | none=>
    rw [hn] at h1
    have e:(16:Int)=0:=congrArg (fun r:Int×Int×Int=>r.2.2) h1
    exact absurd e (by decide)
   | some v=>
    rw [hn] at h1 h4
    rw [← h4]
    have h5:cond (!(AV v.1 v.2)) ((0,0,1):Int×Int×Int) (v.1,v.2,0)=(u.2.1,u.2.2,0):=h1
    cases hv:AV v.1 v.2
    ·rw [hv] at h5
     have e:(1:Int)=0:=congrArg (fun r:Int×Int×Int=>r.2.2) h5
     exact absurd e (by decide)
    rw [hv] at h5
    have h6:v=u.2:=by
     have a1:=congrArg (fun r:Int×Int×Int=>r.1) h5
     have a2:=congrArg (fun r:Int×Int×Int=>r.2.1) h5
     exact Prod.ext a1 a2
    show HV v u.2=true
    rw [h6]
    exact Mz _
  rfl
theorem Q5 {ds:List Df} {i:Nat} (hc:Ac (ds.getD i default)=true):∀ (act:List Nat) (s:GK),(i∈act∨(AH s.2.1 (ds.getD i default).name).isSome=true)→(AH (Dr ds act s).2.1 (ds.getD i default).name).isSome=true
 | [],s,h=>by
  rcases h with h | h
  ·cases h
  exact h
 | j :: act,s,h=>by
  rw [Dr]
  refine Q5 hc act _ ?_
  have d:∀ x:Df,Ac x=(x.kind == 3 || x.kind == 4):=fun x=>by
   unfold Ac
   cases x.kind == 3 <;> rfl
  have keep:(AH s.2.1 (ds.getD i default).name).isSome=true→(AH (IG ds j s).2.1 (ds.getD i default).name).isSome=true:=fun h=>by
   unfold IG
   cases (ds.getD j default).kind == 1
   ·simp only [cond_false]
    cases (ds.getD j default).kind == 2
    ·simp only [cond_false]
     cases ((ds.getD j default).kind == 3 || (ds.getD j default).kind == 4)
     ·exact h
     simp only [cond_true]
     cases !(AH s.2.1 (ds.getD j default).name).isSome
     ·exact h
     show (AH (_ :: s.2.1) _).isSome=true
     rw [AH]
     split
     ·rfl
     exact h
    simp only [cond_true]
    cases !(AH s.2.2 (ds.getD j default).name).isSome <;> exact h
   exact h
  rcases h with h | h
  ·rcases List.mem_cons.1 h with rfl | h
   ·right
    by_cases hs:(AH s.2.1 (ds.getD i default).name).isSome=true
    ·exact keep hs
    have b:=d (ds.getD i default)
    rw [hc] at b
    have a:=LS hc
    have c:(!(AH s.2.1 (ds.getD i default).name).isSome)=true:=by
     cases hq:(AH s.2.1 (ds.getD i default).name).isSome
     ·rfl
     exact absurd hq hs
    unfold IG
    have f:((ds.getD i default).kind == 1)=false:=by rcases a with a | a <;> rw [a] <;> rfl
    have e:((ds.getD i default).kind == 2)=false:=by rcases a with a | a <;> rw [a] <;> rfl
    rw [f,e,← b,c]
    show (AH (((ds.getD i default).name,(i:Int)) :: s.2.1) (ds.getD i default).name).isSome=true
    rw [AH]
    simp
   exact .inl h
  exact .inr (keep h)
theorem ABD {n:List UInt8} {ds:List Df} {day:Int} (c:CJ n ds day=0) {i:Nat} (hi:i∈Ct n ds day) (hc:Ac (ds.getD i default)=true):AH (Ap n ds day).2.1 (ds.getD i default).name=some (i:Int):=by
 have d:=Q5 hc (Ct n ds day) ([],[],[]) (.inl hi)
 obtain ⟨r,hr⟩:=Option.isSome_iff_exists.1 d
 obtain ⟨x,hx,b,a⟩:=KW (n:=n) (day:=day) _ (EM (show AH (Ap n ds day).2.1 _=some r from hr))
 obtain ⟨f,e⟩:=Prod.mk.inj b
 have:=wt c hi hx hc a f
 subst this
 rw [show AH (Ap n ds day).2.1 (ds.getD i default).name=some r from hr,e]
def BW (x:Ex):Df:=⟨3,[110,101,119],false,0,0,0,20454,[],x,0,0,0⟩
def Bb (y:Ex):Df:=⟨3,[114,49],false,1,-1,0,20465,[],y,0,0,0⟩
def Jf (d:Df):Ty:=cond (d.kind == 4) Cb (d.tb,d.tm,d.th,d.td)
def nmL:List (List UInt8×Ty):=[([104],De),([103],BC),([102],DG),([114,49],BU),([114,50],Cb),([114,51],DG),([114,52],BC),([97],Cb),([98],Cb),([110,101,119],BC)]
structure M7 (d:Df):Prop where
 kind:d.kind=1∨d.kind=2∨d.kind=3∨d.kind=4∨d.kind=5
 nam:d.kind=1∨d.kind=3∨d.kind=4→AH nmL d.name=some (Jf d)
 sca:d.kind=2→(d.name=[119]∧Jf d=BU)∨(d.name=[115]∧Jf d=BC)
 pas:d.kind=5→(d.name=[103,114,111,115,115]∧Jf d=Cb)∨(d.name=[116,105,109,101]∧Jf d=De)
 bod:d.kind=3∨d.kind=4→∃ n h,CT n h (Jf d) d.body∧h≤3∧Jf d∈EG
theorem AGK {d:Df} {P:Prop} (h:d.kind≠1∧d.kind≠3∧d.kind≠4):d.kind=1∨d.kind=3∨d.kind=4→P:=fun h2=>by
 rcases h2 with h2 | h2 | h2
 ·exact absurd h2 h.1
 ·exact absurd h2 h.2.1
 exact absurd h2 h.2.2
theorem vo:∀ i:Nat,GR.getD i BC∈EG
 | 0 | 1 | 2 | 3=>by decide
 | _ + 4=>(by decide:BC∈EG)
theorem iR (i:Nat) (hi:i < 4) (frm:Int) (x:Ex) (n:Int) (hx:CT n 3 (GR.getD i BC) x):M7 (Gk i frm x):=by
 have e:Jf (Gk i frm x)=GR.getD i BC:=rfl
 refine ⟨.inr (.inr (.inl rfl)),fun _=>?_,fun h=>absurd (show (3:Int)=2 from h) (by decide),fun h=>absurd (show (3:Int)=5 from h) (by decide),fun _=>⟨n,3,by rw [e]; exact hx,Nat.le_refl _,by rw [e]; exact vo i⟩⟩
 rw [e]
 match i,hi with
 | 0,_ | 1,_ | 2,_ | 3,_=>rfl
theorem vp {d:Df} (h:I3 3 false d):M7 d:=by
 cases h with
 | ins d hd=>
  simp only [Fm,List.mem_cons,List.not_mem_nil,or_false] at hd
  rcases hd with rfl | rfl | rfl | rfl | rfl
  ·exact ⟨.inl rfl,fun _=>rfl,fun h=>absurd h (by decide),fun h=>absurd h (by decide),fun h=>absurd h (by decide)⟩
  ·exact ⟨.inl rfl,fun _=>rfl,fun h=>absurd h (by decide),fun h=>absurd h (by decide),fun h=>absurd h (by decide)⟩
  ·exact ⟨.inl rfl,fun _=>rfl,fun h=>absurd h (by decide),fun h=>absurd h (by decide),fun h=>absurd h (by decide)⟩
  ·exact ⟨.inr (.inr (.inr (.inr rfl))),fun h=>absurd h (by decide),fun h=>absurd h (by decide),fun _=>.inl ⟨rfl,rfl⟩,fun h=>absurd h (by decide)⟩
  exact ⟨.inr (.inr (.inr (.inr rfl))),fun h=>absurd h (by decide),fun h=>absurd h (by decide),fun _=>.inr ⟨rfl,rfl⟩,fun h=>absurd h (by decide)⟩
 | sc nm t frm es h hf he=>
  have k:(Ci nm t frm es).kind=2:=rfl
  refine ⟨.inr (.inl rfl),AGK (by rw [k]; decide),fun _=>?_,fun h=>absurd (k.symm.trans h) (by decide),fun h=>?_⟩
  ·rcases h with ⟨rfl,rfl⟩ | ⟨rfl,rfl⟩
   ·exact .inl ⟨rfl,rfl⟩
   exact .inr ⟨rfl,rfl⟩
  rw [k] at h
  rcases h with h | h <;> exact absurd h (by decide)
 | rule i frm x n hi hf hn hx=>exact iR i hi frm x n hx
 | pay i x mode q hi h0 h6 hq hx=>
  have e:Jf (Jl i x mode q)=Cb:=rfl
  refine ⟨.inr (.inr (.inr (.inl rfl))),fun _=>?_,fun h=>absurd (show (4:Int)=2 from h) (by decide),fun h=>absurd (show (4:Int)=5 from h) (by decide),fun _=>⟨_,3,by rw [e]; exact hx,Nat.le_refl _,by rw [e]; decide⟩⟩
  rw [e]
  match i,hi with
  | 0,_ | 1,_=>rfl
def Hg (d:Df):Bool:=d.kind == 1 || (d.kind == 3 || d.kind == 4)
theorem F8:∀ (l a b c:List Df),CM l a b c=(a++l.filter Hg,b++l.filter (·.kind == 2),c++l.filter (·.kind == 5))
 | [],a,b,c=>by rw [CM]; simp
 | e :: l,a,b,c=>by
  have f:∀ k:Int,(e.kind == k)=true→e.kind=k:=fun k h=>eq_of_beq h
  rw [CM]
  cases h1:e.kind == 1
  ·simp only [cond_false]
   cases h3:e.kind == 3
   ·simp only [cond_false]
    cases h4:e.kind == 4
    ·simp only [cond_false]
     cases h2:e.kind == 2
     ·simp only [cond_false]
      cases d:e.kind == 5
      ·simp only [cond_false]
       rw [F8]
       simp [Hg,h1,h2,h3,h4,d,List.filter_cons]
      simp only [cond_true]
      rw [F8]
      simp [Hg,h1,h2,h3,h4,d,List.filter_cons]
     simp only [cond_true]
     rw [F8]
     have d:(e.kind == 5)=false:=by rw [f 2 h2]; rfl
     simp [Hg,h1,h2,h3,h4,d,List.filter_cons]
    simp only [cond_true]
    rw [F8]
    have h2:(e.kind == 2)=false:=by rw [f 4 h4]; rfl
    have d:(e.kind == 5)=false:=by rw [f 4 h4]; rfl
    simp [Hg,h2,h4,d,List.filter_cons]
   simp only [cond_true]
   rw [F8]
   have h2:(e.kind == 2)=false:=by rw [f 3 h3]; rfl
   have d:(e.kind == 5)=false:=by rw [f 3 h3]; rfl
   simp [Hg,h2,h3,d,List.filter_cons]
  simp only [cond_true]
  rw [F8]
  have h2:(e.kind == 2)=false:=by rw [f 1 h1]; rfl
  have d:(e.kind == 5)=false:=by rw [f 1 h1]; rfl
  simp [Hg,h1,h2,d,List.filter_cons]
theorem Mr {nm:List UInt8} {t:Ty}:∀ (l:List Df) (a:Int),(∃ d∈l,d.name=nm)→(∀ d∈l,d.name=nm→Jf d=t)→Fp nm l a=M8 t
 | [],_,⟨d,hd,_⟩,_=>by cases hd
 | e :: l,a,hex,hall=>by
  rw [Fp]
  cases hc:decide (e.name=nm)
  ·have b:e.name≠nm:=of_decide_eq_false hc
   obtain ⟨d,hd,hn⟩:=hex
   refine Mr l a ⟨d,?_,hn⟩ fun q c=>hall q (by simp [c])
   rcases List.mem_cons.1 hd with rfl | hd
   ·exact absurd hn b
   exact hd
  have:=hall e (by simp) (of_decide_eq_true hc)
  unfold Jf at this
  show cond (e.kind == 4) _ _=_
  cases h4:e.kind == 4
  ·rw [h4] at this
   rw [← this]
   rfl
  rw [h4] at this
  rw [← this]
  rfl
theorem ZD {d:Df} (h:Hg d=true):d.kind=1∨d.kind=3∨d.kind=4:=by
 unfold Hg at h
 simpa using h
theorem wu {ds:List Df} (hf:SZ ds) {bs:List Df} (hb:∀ d∈bs,M7 d) (b:∀ d∈ds,d∈bs) (n:Int):Tab n (AW bs).1 (AW bs).2.1 (AW bs).2.2:=by
 have e:AW bs=(bs.filter Hg,bs.filter (·.kind == 2),bs.filter (·.kind == 5)):=by
  unfold AW
  rw [F8]
  simp
 rw [e]
 have fn:∀ (nm:List UInt8) (t:Ty),(∃ d∈ds,d.name=nm∧Hg d=true)→AH nmL nm=some t→CK (bs.filter Hg) nm=M8 t:=fun nm t ⟨d,hd,hn,a⟩ hl=>by
  refine Mr _ _ ⟨d,List.mem_filter.2 ⟨b d hd,a⟩,hn⟩ fun q i c=>?_
  obtain ⟨g,f⟩:=List.mem_filter.1 i
  have:=(hb q g).nam (ZD f)
  rw [c,hl] at this
  exact (Option.some.inj this).symm
 have ins:∀ d∈Fm,Hg d=true→∃ q∈ds,q.name=d.name∧Hg q=true:=fun d hd a=>⟨d,hf.ins d hd,rfl,a⟩
 have rul:∀ k,k < 4→∃ q∈ds,q.name=Ng.getD k []∧Hg q=true:=fun k a=>by
  obtain ⟨x,hx⟩:=hf.rul k a
  exact ⟨_,hx,rfl,rfl⟩
 have o:=fn [104] De (ins _ (by simp [Fm]:(⟨1,[104],false,0,1,0,0,[],BM,0,0,0⟩:Df)∈Fm) rfl) rfl
 have p:=fn [103] BC (ins _ (by simp [Fm]:(⟨1,[103],false,0,0,0,0,[],BM,0,0,0⟩:Df)∈Fm) rfl) rfl
 have r:=fn [102] DG (ins _ (by simp [Fm]:(⟨1,[102],true,0,0,0,0,[],BM,0,0,0⟩:Df)∈Fm) rfl) rfl
 have y:=fn [114,49] BU (rul 0 (by decide)) rfl
 have w:=fn [114,50] Cb (rul 1 (by decide)) rfl
 have v:=fn [114,51] DG (rul 2 (by decide)) rfl
 have u:=fn [114,52] BC (rul 3 (by decide)) rfl
 have s:=fn [97] Cb (by obtain ⟨x,m,q,hx⟩:=hf.pay; exact ⟨_,hx,rfl,rfl⟩) rfl
 have j:∀ (nm:List UInt8) (t:Ty),(∃ d∈ds,d.name=nm∧d.kind=2)→(∀ d:Df,M7 d→d.kind=2→d.name=nm→Jf d=t)→CK (bs.filter (·.kind == 2)) nm=M8 t:=fun nm t ⟨d,hd,hn,a⟩ hl=>by
  refine Mr _ _ ⟨d,List.mem_filter.2 ⟨b d hd,beq_iff_eq.2 a⟩,hn⟩ fun q i c=>?_
  obtain ⟨g,f⟩:=List.mem_filter.1 i
  exact hl q (hb q g) (eq_of_beq f) c
 have l:∀ (nm:List UInt8) (t:Ty),(∃ d∈ds,d.name=nm∧d.kind=5)→(∀ d:Df,M7 d→d.kind=5→d.name=nm→Jf d=t)→CK (bs.filter (·.kind == 5)) nm=M8 t:=fun nm t ⟨d,hd,hn,a⟩ hl=>by
  refine Mr _ _ ⟨d,List.mem_filter.2 ⟨b d hd,beq_iff_eq.2 a⟩,hn⟩ fun q i c=>?_
  obtain ⟨g,f⟩:=List.mem_filter.1 i
  exact hl q (hb q g) (eq_of_beq f) c
 refine ⟨fun t z nm hm=>?_,j _ _ ?_ ?_,j _ _ ?_ ?_,l _ _ ?_ ?_,l _ _ ?_ ?_⟩
 ·rcases pz z with rfl | rfl | rfl | rfl | rfl
  ·have h2:nm=[103]∨nm=[114,52]:=by
    revert hm
    show nm∈[103] :: cond (decide (4 < n)) [[114,52]] []→_
    cases decide (4 < n) <;> simp +contextual
   rcases h2 with rfl | rfl
   ·exact p
   exact u
  ·have h2:nm=[114,50]∨nm=[97]:=by
    revert hm
    show nm∈cond (decide (2 < n)) [[114,50]] []++cond (decide (4 < n)) [[97]] []→_
    cases decide (2 < n) <;> cases decide (4 < n) <;> simp
    ·exact fun h=>.inr h
    exact fun h=>.inl h
   rcases h2 with rfl | rfl
   ·exact w
   exact s
  ·have h2:nm=[104]:=by
    revert hm
    show nm∈[[104]]→_
    simp
   rw [h2]; exact o
  ·have h2:nm=[114,49]:=by
    revert hm
    show nm∈cond (decide (1 < n)) [[114,49]] []→_
    cases decide (1 < n) <;> simp
   rw [h2]; exact y
  have h2:nm=[102]∨nm=[114,51]:=by
   revert hm
   show nm∈[102] :: cond (decide (3 < n)) [[114,51]] []→_
   cases decide (3 < n) <;> simp +contextual
  rcases h2 with rfl | rfl
  ·exact r
  exact v
 ·obtain ⟨es,_,h⟩:=hf.scw; exact ⟨_,h,rfl,rfl⟩
 ·intro d hd a hn
  rcases hd.sca a with ⟨_,h⟩ | ⟨h,_⟩
  ·exact h
  rw [hn] at h; exact absurd h (by decide)
 ·obtain ⟨es,_,h⟩:=hf.scs; exact ⟨_,h,rfl,rfl⟩
 ·intro d hd a hn
  rcases hd.sca a with ⟨h,_⟩ | ⟨_,h⟩
  ·rw [hn] at h; exact absurd h (by decide)
  exact h
 ·exact ⟨⟨5,[103,114,111,115,115],false,1,0,0,0,[],BM,0,0,0⟩,hf.ins _ (by simp [Fm]),rfl,rfl⟩
 ·intro d hd a hn
  rcases hd.pas a with ⟨_,h⟩ | ⟨h,_⟩
  ·exact h
  rw [hn] at h; exact absurd h (by decide)
 ·exact ⟨⟨5,[116,105,109,101],false,0,1,0,0,[],BM,0,0,0⟩,hf.ins _ (by simp [Fm]),rfl,rfl⟩
 intro d hd a hn
 rcases hd.pas a with ⟨h,_⟩ | ⟨_,h⟩
 ·rw [hn] at h; exact absurd h (by decide)
 exact h
end Go.Proofs.YtkjbdagicjbjjaaGreat

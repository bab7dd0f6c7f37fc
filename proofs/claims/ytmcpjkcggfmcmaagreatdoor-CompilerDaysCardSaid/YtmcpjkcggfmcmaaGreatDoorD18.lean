/-
  Part 18 of a proof: contracts of functions.
-/
import Derived.Test.YtmcpjkcggfmcmaaGreatDoorD17
set_option linter.all false
namespace Go.Proofs.YtmcpjkcggfmcmaaGreatDoor
open Go.RowKit
set_option maxRecDepth 100000
set_option maxHeartbeats 1000000
attribute [local irreducible] BO CB AE AG AL Ay Aj AP Bc Cq Eb CT CO At Fr
def rW (ns ss ps:List Df) (x:Ex):List JY→JY
 | []=>SY ns ss ps x
 | [r0]=>Og r0 ns ss ps x
 | [r0,r1]=>MR r0 r1 ns ss ps x
 | [r0,r1,r2]=>Kx r0 r1 r2 ns ss ps x
 | _=>(false,0,0,0,1)
mutual
def GG (ns ss ps:List Df):Ex→JY
 | .mk op num den mu hu du nm cnt md kids=>rW ns ss ps (.mk op num den mu hu du nm cnt md kids) (Gi ns ss ps kids)
def Gi (ns ss ps:List Df):List Ex→List JY
 | []=>[]
 | e :: es=>GG ns ss ps e :: Gi ns ss ps es
end
theorem MO {op num den mu hu du:Int} {nm:List UInt8} {cnt md:Int} {a:List Ex} {h:Int} (hv:IM (.mk op num den mu hu du nm cnt md a) h=true):(a.length:Int)=Cu op∧Gv a (h - 1)=true:=by
 rw [IM] at hv
 cases h1:cond (decide (h < 1)) true (!((a.length:Int) == Cu op)) with
 | true=>rw [h1] at hv; exact nomatch hv
 | false=>
  rw [h1] at hv
  have h2:((a.length:Int) == Cu op)=true:=by
   cases h3:decide (h < 1) with
   | true=>rw [h3] at h1; exact nomatch h1
   | false=>rw [h3] at h1; cases h4:((a.length:Int) == Cu op) with
    | true=>rfl
    | false=>rw [h4] at h1; exact nomatch h1
  refine ⟨eq_of_beq h2,?_⟩
  cases h5:Cs op num den mu hu du nm cnt md with
  | true=>rw [h5] at hv; exact hv
  | false=>rw [h5] at hv; exact nomatch hv
theorem MN {h:Int}:∀ {a:List Ex} {i:Nat} {e:Ex},Gv a h=true→a[i]?=some e→IM e h=true
 | [],_,_,_,hi=>by simp at hi
 | x :: es,i,e,hv,hi=>by
  rw [Gv] at hv
  cases h1:IM x h with
  | false=>rw [h1] at hv; exact nomatch hv
  | true=>
   rw [h1] at hv
   cases i with
   | zero=>simp at hi; subst hi; exact h1
   | succ i=>exact MN (i:=i) hv (by simpa using hi)
theorem VP {op:Int} (h:0≤Cu op):op=1∨op=2∨op=3∨op=20∨op=21∨op=4∨op=16∨op=17∨op=19∨op=5∨op=6∨op=7∨op=8∨op=9∨op=10∨op=11∨op=12∨op=13∨op=14∨op=15∨op=18:=by
 unfold Cu at h
 cases q1:(op == 1) with
 | true=>exact .inl (eq_of_beq q1)
 | false=>
 rw [q1] at h
 cases q2:(op == 2) with
 | true=>exact .inr (.inl (eq_of_beq q2))
 | false=>
 rw [q2] at h
 cases q3:(op == 3) with
 | true=>exact .inr (.inr (.inl (eq_of_beq q3)))
 | false=>
 rw [q3] at h
 cases q20:(op == 20) with
 | true=>exact .inr (.inr (.inr (.inl (eq_of_beq q20))))
 | false=>
 rw [q20] at h
 cases q21:(op == 21) with
 | true=>exact .inr (.inr (.inr (.inr (.inl (eq_of_beq q21)))))
 | false=>
 rw [q21] at h
 cases q4:(op == 4) with
 | true=>exact .inr (.inr (.inr (.inr (.inr (.inl (eq_of_beq q4))))))
 | false=>
 rw [q4] at h
 cases q16:(op == 16) with
 | true=>exact .inr (.inr (.inr (.inr (.inr (.inr (.inl (eq_of_beq q16)))))))
 | false=>
 rw [q16] at h
 cases q17:(op == 17) with
 | true=>exact .inr (.inr (.inr (.inr (.inr (.inr (.inr (.inl (eq_of_beq q17))))))))
 | false=>
 rw [q17] at h
 cases q19:(op == 19) with
 | true=>exact .inr (.inr (.inr (.inr (.inr (.inr (.inr (.inr (.inl (eq_of_beq q19)))))))))
 | false=>
 rw [q19] at h
 cases q5:(op == 5) with
 | true=>exact .inr (.inr (.inr (.inr (.inr (.inr (.inr (.inr (.inr (.inl (eq_of_beq q5))))))))))
 | false=>
 rw [q5] at h
 cases q6:(op == 6) with
 | true=>exact .inr (.inr (.inr (.inr (.inr (.inr (.inr (.inr (.inr (.inr (.inl (eq_of_beq q6)))))))))))
 | false=>
 rw [q6] at h
 cases q7:(op == 7) with
 | true=>exact .inr (.inr (.inr (.inr (.inr (.inr (.inr (.inr (.inr (.inr (.inr (.inl (eq_of_beq q7))))))))))))
 | false=>
 rw [q7] at h
 cases q8:(op == 8) with
 | true=>exact .inr (.inr (.inr (.inr (.inr (.inr (.inr (.inr (.inr (.inr (.inr (.inr (.inl (eq_of_beq q8)))))))))))))
 | false=>
 rw [q8] at h
 cases q9:(op == 9) with
 | true=>exact .inr (.inr (.inr (.inr (.inr (.inr (.inr (.inr (.inr (.inr (.inr (.inr (.inr (.inl (eq_of_beq q9))))))))))))))
 | false=>
 rw [q9] at h
 cases q10:(op == 10) with
 | true=>exact .inr (.inr (.inr (.inr (.inr (.inr (.inr (.inr (.inr (.inr (.inr (.inr (.inr (.inr (.inl (eq_of_beq q10)))))))))))))))
 | false=>
 rw [q10] at h
 cases q11:(op == 11) with
 | true=>exact .inr (.inr (.inr (.inr (.inr (.inr (.inr (.inr (.inr (.inr (.inr (.inr (.inr (.inr (.inr (.inl (eq_of_beq q11))))))))))))))))
 | false=>
 rw [q11] at h
 cases q12:(op == 12) with
 | true=>exact .inr (.inr (.inr (.inr (.inr (.inr (.inr (.inr (.inr (.inr (.inr (.inr (.inr (.inr (.inr (.inr (.inl (eq_of_beq q12)))))))))))))))))
 | false=>
 rw [q12] at h
 cases q13:(op == 13) with
 | true=>exact .inr (.inr (.inr (.inr (.inr (.inr (.inr (.inr (.inr (.inr (.inr (.inr (.inr (.inr (.inr (.inr (.inr (.inl (eq_of_beq q13))))))))))))))))))
 | false=>
 rw [q13] at h
 cases q14:(op == 14) with
 | true=>exact .inr (.inr (.inr (.inr (.inr (.inr (.inr (.inr (.inr (.inr (.inr (.inr (.inr (.inr (.inr (.inr (.inr (.inr (.inl (eq_of_beq q14)))))))))))))))))))
 | false=>
 rw [q14] at h
 cases q15:(op == 15) with
 | true=>exact .inr (.inr (.inr (.inr (.inr (.inr (.inr (.inr (.inr (.inr (.inr (.inr (.inr (.inr (.inr (.inr (.inr (.inr (.inr (.inl (eq_of_beq q15))))))))))))))))))))
 | false=>
 rw [q15] at h
 cases q18:(op == 18) with
 | true=>exact .inr (.inr (.inr (.inr (.inr (.inr (.inr (.inr (.inr (.inr (.inr (.inr (.inr (.inr (.inr (.inr (.inr (.inr (.inr (.inr ((eq_of_beq q18)))))))))))))))))))))
 | false=>
 rw [q18] at h
 exact absurd h (by decide)
def Oc (ns ss ps:List Df) (p0aA p0bA p0cA:Option Addr) (p0ac p0bc p0cc n:Nat):Prop:=∀ (e:Ex) (h:Int) (A:Option Addr) (c:Nat) (w:World),e.height≤n→IM e h=true→rowsDf w p0aA ns→rowsDf w p0bA ss→rowsDf w p0cA ps→rowsEx w A e.ks→Calls Tryz.prog 125 ([.agg ⟨[.slice p0aA ns.length p0ac,.slice p0bA ss.length p0bc,.slice p0cA ps.length p0cc]⟩,.agg ⟨CW e A c⟩]:List Value).toArray w fun en w'=>en=.returned (Jq (GG ns ss ps e))∧Below w.heap.size w w'
theorem Zh {ns ss v:List Df} {j f b:Option Addr} {g d a:Nat} (o:ns.length≤4294967296) (l:ss.length≤4294967296) (m:v.length≤4294967296) (n:Nat) (IH:Oc ns ss v j f b g d a n):Oc ns ss v j f b g d a (n + 1):=by
 rintro ⟨op,num,den,mu,hu,du,nm,cnt,md,q⟩ h A c w hh hv t r s p
 obtain ⟨hk,hv⟩:=MO hv
 have x:Ex.heights q≤n:=by unfold Ex.height at hh; omega
 have y:∀ (i:Nat) (k:Ex),q[i]?=some k→∀ u,Below w.heap.size w u→∀ (A':Option Addr) (c':Nat),rowsEx u A' k.ks→Calls Tryz.prog 125 ([.agg ⟨[.slice j ns.length g,.slice f ss.length d,.slice b v.length a]⟩,.agg ⟨CW k A' c'⟩]:List Value).toArray u fun en w'=>en=.returned (Jq (GG ns ss v k))∧Below u.heap.size u w':=fun i k hi u B A' c' hx=>
  IH k (h - 1) A' c' u (by have:=JL hi; omega) (MN hv hi) (t.below B) (r.below B) (s.below B) hx
 rw [GG]
 have z:q.length≤3:=by
  rcases VP (op:=op) (by omega) with rfl | rfl | rfl | rfl | rfl | rfl | rfl | rfl | rfl | rfl | rfl | rfl | rfl | rfl | rfl | rfl | rfl | rfl | rfl | rfl | rfl <;> (have e:(q.length:Int)≤3:=by rw [hk]; decide) <;> omega
 match q,hk,hv,x,y,z,p with
 | [],hk,hv,x,y,z,p=>rw [Gi]; exact SX j ns g f ss d b v a (.mk op num den mu hu du nm cnt md []) A c w t o r l s m p rfl
 | [k0],hk,hv,x,y,z,p=>rw [Gi,Gi]; exact SW (GG ns ss v k0) j ns g f ss d b v a (.mk op num den mu hu du nm cnt md [k0]) A k0 c w t o r l s m p rfl (y 0 _ rfl)
 | [k0,k1],hk,hv,x,y,z,p=>rw [Gi,Gi,Gi]; exact SV (GG ns ss v k0) (GG ns ss v k1) j ns g f ss d b v a (.mk op num den mu hu du nm cnt md [k0,k1]) A k0 k1 c w t o r l s m p rfl (y 0 _ rfl) (y 1 _ rfl)
 | [k0,k1,k2],hk,hv,x,y,z,p=>rw [Gi,Gi,Gi,Gi]; exact SU (GG ns ss v k0) (GG ns ss v k1) (GG ns ss v k2) j ns g f ss d b v a (.mk op num den mu hu du nm cnt md [k0,k1,k2]) A k0 k1 k2 c w t o r l s m p rfl (y 0 _ rfl) (y 1 _ rfl) (y 2 _ rfl)
 | _ :: _ :: _ :: _ :: _,_,_,_,_,z,_=>simp at z
theorem Of {ns ss m:List Df} {l j g:Option Addr} {k i f:Nat} (d:ns.length≤4294967296) (a:ss.length≤4294967296) (b:m.length≤4294967296):∀ n,Oc ns ss m l j g k i f n
 | 0=>fun e h A c w o=>absurd o (by cases e; unfold Ex.height; omega)
 | n + 1=>Zh d a b n (Of d a b n)
end Go.Proofs.YtmcpjkcggfmcmaaGreatDoor
namespace Go.Proofs.YtmcpjkcggfmcmaaGreatDoor
noncomputable section
open Go.RowKit
set_option maxRecDepth 100000
set_option maxHeartbeats 1000000
attribute [local irreducible] BO CB AE AG AL Ay Aj AP Bc Cq Eb CT CO At Fr
def Bf (x:Ex) (ns:List (Df)) (ss:List (Df)) (ps:List (Df)):Bool×Int×Int×Int×Int:=cond (!(EI x)) ((false,0,0,0,1)) (GG ns ss ps x)
def WG (r:Bool×Int×Int×Int×Int):Value:=.tuple #[.agg ⟨[.bool (r.1),D (r.2.1),D (r.2.2.1),D (r.2.2.2.1)]⟩,D (r.2.2.2.2)]
noncomputable def ce:Code:=Tryz.f88.body.getD .skip
def nK:=AB 60 ([.code ce])
def eG:=AB 60 (AE nK)
def uR:=AB 60 (AG eG)
def nJ:=AB 60 (AL eG)
def uQ:=AB 60 (AE nJ)
theorem SS (x:Ex) (a:Option Addr) (b:Nat) (i:Option Addr) (ns:List (Df)) (p:Nat) (h:Option Addr) (ss:List (Df)) (o:Nat) (g:Option Addr) (d:List (Df)) (m:Nat) (w:World) (f:rowsEx w a x.ks) (s:rowsDf w i ns) (l:ns.length≤4294967296) (q:rowsDf w h ss) (j:ss.length≤4294967296) (r:rowsDf w g d) (k:d.length≤4294967296) (ht:Dq x):Calls Tryz.prog 88 ([.agg ⟨[D x.op,D x.num,D x.den,D x.mu,D x.hu,D x.du,.string ⟨⟨x.nm⟩⟩,D x.cnt,D x.md,.slice a x.ks.length b]⟩,.slice i ns.length p,.slice h ss.length o,.slice g d.length m]:List Value).toArray w fun e w'=>e=.returned (WG (Bf x ns ss d))∧Below w.heap.size w w':=by
 refine Af (fn:=Tryz.f88) (c:=ce) (n:=22) ?_
 have K1:=Wk.start w
 refine BQ nK K1 [(0,0)] fun w1 y=>?_
 refine Ap y (Jd x x.op x.num x.den x.mu x.hu x.du x.nm x.cnt x.md a x.ks.length b w1 ht (uK (f.below y.B))) fun w2 K3=>?_
 refine AC eG K3 [] fun w3 v=>?_
 refine AM (!(EI x)) (fun u=>?_) (fun u=>?_)
 ·refine AC uR v [(1,0)] fun w5 K5=>?_
  exact AO K5 (1,0) (.tuple #[.agg ⟨[.bool false,D 0,D 0,D 0]⟩,D 1]) (by unfold Bf; rw [u] <;> rfl)
 ·refine AC nJ v [(0,0)] fun z t=>?_
  refine Ap t (args:=[.agg ⟨[.slice i ns.length p,.slice h ss.length o,.slice g d.length m]⟩,.agg ⟨[D x.op,D x.num,D x.den,D x.mu,D x.hu,D x.du,.string ⟨⟨x.nm⟩⟩,D x.cnt,D x.md,.slice a x.ks.length b]⟩]) (Of l j k _ x 32 _ _ z (Nat.le_refl _) (by simpa [EI] using ‹(!(EI x))=false›) (s.below t.B) (q.below t.B) (r.below t.B) (f.below t.B)) fun w7 K7=>?_
  refine BQ uQ K7 [(1,0)] fun w8 K8=>?_
  exact AO K8 (1,0) (.tuple #[.agg ⟨[.bool ((GG ns ss d x).1),D ((GG ns ss d x).2.1),D ((GG ns ss d x).2.2.1),D ((GG ns ss d x).2.2.2.1)]⟩,D ((GG ns ss d x).2.2.2.2)]) (by unfold Bf; rw [u] <;> rfl)
end
end Go.Proofs.YtmcpjkcggfmcmaaGreatDoor

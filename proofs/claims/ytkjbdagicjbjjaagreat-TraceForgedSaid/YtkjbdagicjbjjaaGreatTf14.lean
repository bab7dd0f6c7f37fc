/-
  Part 14 of a proof: contracts of functions.
-/
import Derived.Test.YtkjbdagicjbjjaaGreatTf13
set_option linter.all false
namespace Go.Proofs.YtkjbdagicjbjjaaGreat
open Go.RowKit
set_option maxRecDepth 100000
set_option maxHeartbeats 1000000
attribute [local irreducible] A8 BL AC AD AF Ao AY AL Aq Bb Cn BR BK At Fr
def zI (ns ss ps:List Df) (x:Ex):List I7→I7
 | []=>S3 ns ss ps x
 | [r0]=>Oj r0 ns ss ps x
 | [r0,r1]=>MQ r0 r1 ns ss ps x
 | [r0,r1,r2]=>LC r0 r1 r2 ns ss ps x
 | _=>(false,0,0,0,1)
mutual
def Ft (ns ss ps:List Df):Ex→I7
 | .mk op num den mu hu du nm cnt md kids=>zI ns ss ps (.mk op num den mu hu du nm cnt md kids) (GM ns ss ps kids)
def GM (ns ss ps:List Df):List Ex→List I7
 | []=>[]
 | e :: es=>Ft ns ss ps e :: GM ns ss ps es
end
theorem eW {op num den mu hu du:Int} {nm:List UInt8} {cnt md:Int} {a:List Ex} {h:Int} (hv:H8 (.mk op num den mu hu du nm cnt md a) h=true):(a.length:Int)=C6 op∧Ge a (h - 1)=true:=by
 rw [H8] at hv
 cases h1:cond (decide (h < 1)) true (!((a.length:Int) == C6 op)) with
 | true=>rw [h1] at hv; exact nomatch hv
 | false=>
  rw [h1] at hv
  have h2:((a.length:Int) == C6 op)=true:=by
   cases h3:decide (h < 1) with
   | true=>rw [h3] at h1; exact nomatch h1
   | false=>rw [h3] at h1; cases h4:((a.length:Int) == C6 op) with
    | true=>rfl
    | false=>rw [h4] at h1; exact nomatch h1
  refine ⟨eq_of_beq h2,?_⟩
  cases h5:Cl op num den mu hu du nm cnt md with
  | true=>rw [h5] at hv; exact hv
  | false=>rw [h5] at hv; exact nomatch hv
theorem RG {h:Int}:∀ {a:List Ex} {i:Nat} {e:Ex},Ge a h=true→a[i]?=some e→H8 e h=true
 | [],_,_,_,hi=>by simp at hi
 | x :: es,i,e,hv,hi=>by
  rw [Ge] at hv
  cases h1:H8 x h with
  | false=>rw [h1] at hv; exact nomatch hv
  | true=>
   rw [h1] at hv
   cases i with
   | zero=>simp at hi; subst hi; exact h1
   | succ i=>exact RG (i:=i) hv (by simpa using hi)
theorem Ww {op:Int} (h:0≤C6 op):op=1∨op=2∨op=3∨op=20∨op=21∨op=4∨op=16∨op=17∨op=19∨op=5∨op=6∨op=7∨op=8∨op=9∨op=10∨op=11∨op=12∨op=13∨op=14∨op=15∨op=18:=by
 unfold C6 at h
 cases q1:(op == 1) with
 | true=>exact .inl (eq_of_beq q1)
 | false=>
 rw [q1] at h
 cases q2:(op == 2) with
 | true=>exact .inr (.inl (eq_of_beq q2))
 | false=>
 rw [q2] at h
 cases q3:(op == 3) with
 | true=>exact .inr (.inr (.inl (eq_of_beq q3)))
 | false=>
 rw [q3] at h
 cases q20:(op == 20) with
 | true=>exact .inr (.inr (.inr (.inl (eq_of_beq q20))))
 | false=>
 rw [q20] at h
 cases q21:(op == 21) with
 | true=>exact .inr (.inr (.inr (.inr (.inl (eq_of_beq q21)))))
 | false=>
 rw [q21] at h
 cases q4:(op == 4) with
 | true=>exact .inr (.inr (.inr (.inr (.inr (.inl (eq_of_beq q4))))))
 | false=>
 rw [q4] at h
 cases q16:(op == 16) with
 | true=>exact .inr (.inr (.inr (.inr (.inr (.inr (.inl (eq_of_beq q16)))))))
 | false=>
 rw [q16] at h
 cases q17:(op == 17) with
 | true=>exact .inr (.inr (.inr (.inr (.inr (.inr (.inr (.inl (eq_of_beq q17))))))))
 | false=>
 rw [q17] at h
 cases q19:(op == 19) with
 | true=>exact .inr (.inr (.inr (.inr (.inr (.inr (.inr (.inr (.inl (eq_of_beq q19)))))))))
 | false=>
 rw [q19] at h
 cases q5:(op == 5) with
 | true=>exact .inr (.inr (.inr (.inr (.inr (.inr (.inr (.inr (.inr (.inl (eq_of_beq q5))))))))))
 | false=>
 rw [q5] at h
 cases q6:(op == 6) with
 | true=>exact .inr (.inr (.inr (.inr (.inr (.inr (.inr (.inr (.inr (.inr (.inl (eq_of_beq q6)))))))))))
 | false=>
 rw [q6] at h
 cases q7:(op == 7) with
 | true=>exact .inr (.inr (.inr (.inr (.inr (.inr (.inr (.inr (.inr (.inr (.inr (.inl (eq_of_beq q7))))))))))))
 | false=>
 rw [q7] at h
 cases q8:(op == 8) with
 | true=>exact .inr (.inr (.inr (.inr (.inr (.inr (.inr (.inr (.inr (.inr (.inr (.inr (.inl (eq_of_beq q8)))))))))))))
 | false=>
 rw [q8] at h
 cases q9:(op == 9) with
 | true=>exact .inr (.inr (.inr (.inr (.inr (.inr (.inr (.inr (.inr (.inr (.inr (.inr (.inr (.inl (eq_of_beq q9))))))))))))))
 | false=>
 rw [q9] at h
 cases q10:(op == 10) with
 | true=>exact .inr (.inr (.inr (.inr (.inr (.inr (.inr (.inr (.inr (.inr (.inr (.inr (.inr (.inr (.inl (eq_of_beq q10)))))))))))))))
 | false=>
 rw [q10] at h
 cases q11:(op == 11) with
 | true=>exact .inr (.inr (.inr (.inr (.inr (.inr (.inr (.inr (.inr (.inr (.inr (.inr (.inr (.inr (.inr (.inl (eq_of_beq q11))))))))))))))))
 | false=>
 rw [q11] at h
 cases q12:(op == 12) with
 | true=>exact .inr (.inr (.inr (.inr (.inr (.inr (.inr (.inr (.inr (.inr (.inr (.inr (.inr (.inr (.inr (.inr (.inl (eq_of_beq q12)))))))))))))))))
 | false=>
 rw [q12] at h
 cases q13:(op == 13) with
 | true=>exact .inr (.inr (.inr (.inr (.inr (.inr (.inr (.inr (.inr (.inr (.inr (.inr (.inr (.inr (.inr (.inr (.inr (.inl (eq_of_beq q13))))))))))))))))))
 | false=>
 rw [q13] at h
 cases q14:(op == 14) with
 | true=>exact .inr (.inr (.inr (.inr (.inr (.inr (.inr (.inr (.inr (.inr (.inr (.inr (.inr (.inr (.inr (.inr (.inr (.inr (.inl (eq_of_beq q14)))))))))))))))))))
 | false=>
 rw [q14] at h
 cases q15:(op == 15) with
 | true=>exact .inr (.inr (.inr (.inr (.inr (.inr (.inr (.inr (.inr (.inr (.inr (.inr (.inr (.inr (.inr (.inr (.inr (.inr (.inr (.inl (eq_of_beq q15))))))))))))))))))))
 | false=>
 rw [q15] at h
 cases q18:(op == 18) with
 | true=>exact .inr (.inr (.inr (.inr (.inr (.inr (.inr (.inr (.inr (.inr (.inr (.inr (.inr (.inr (.inr (.inr (.inr (.inr (.inr (.inr ((eq_of_beq q18)))))))))))))))))))))
 | false=>
 rw [q18] at h
 exact absurd h (by decide)
def Od (ns ss ps:List Df) (p0aA p0bA p0cA:Option Addr) (p0ac p0bc p0cc n:Nat):Prop:=∀ (e:Ex) (h:Int) (A:Option Addr) (c:Nat) (w:World),e.height≤n→H8 e h=true→rowsDf w p0aA ns→rowsDf w p0bA ss→rowsDf w p0cA ps→rowsEx w A e.ks→Calls Tryz.prog 112 ([.agg ⟨[.slice p0aA ns.length p0ac,.slice p0bA ss.length p0bc,.slice p0cA ps.length p0cc]⟩,.agg ⟨AW e A c⟩]:List Value).toArray w fun en w'=>en=.returned (JL (Ft ns ss ps e))∧Below w.heap.size w w'
theorem eY {ns ss v:List Df} {j f b:Option Addr} {g d a:Nat} (o:ns.length≤4294967296) (l:ss.length≤4294967296) (m:v.length≤4294967296) (n:Nat) (IH:Od ns ss v j f b g d a n):Od ns ss v j f b g d a (n + 1):=by
 rintro ⟨op,num,den,mu,hu,du,nm,cnt,md,q⟩ h A c w hh hv t r s p
 obtain ⟨hk,hv⟩:=eW hv
 have x:Ex.heights q≤n:=by unfold Ex.height at hh; omega
 have y:∀ (i:Nat) (k:Ex),q[i]?=some k→∀ u,Below w.heap.size w u→∀ (A':Option Addr) (c':Nat),rowsEx u A' k.ks→Calls Tryz.prog 112 ([.agg ⟨[.slice j ns.length g,.slice f ss.length d,.slice b v.length a]⟩,.agg ⟨AW k A' c'⟩]:List Value).toArray u fun en w'=>en=.returned (JL (Ft ns ss v k))∧Below u.heap.size u w':=fun i k hi u B A' c' hx=>
  IH k (h - 1) A' c' u (by have:=Is hi; omega) (RG hv hi) (t.below B) (r.below B) (s.below B) hx
 rw [Ft]
 have z:q.length≤3:=by
  rcases Ww (op:=op) (by omega) with rfl | rfl | rfl | rfl | rfl | rfl | rfl | rfl | rfl | rfl | rfl | rfl | rfl | rfl | rfl | rfl | rfl | rfl | rfl | rfl | rfl <;> (have e:(q.length:Int)≤3:=by rw [hk]; decide) <;> omega
 match q,hk,hv,x,y,z,p with
 | [],hk,hv,x,y,z,p=>rw [GM]; exact S2 j ns g f ss d b v a (.mk op num den mu hu du nm cnt md []) A c w t o r l s m p rfl
 | [k0],hk,hv,x,y,z,p=>rw [GM,GM]; exact S1 (Ft ns ss v k0) j ns g f ss d b v a (.mk op num den mu hu du nm cnt md [k0]) A k0 c w t o r l s m p rfl (y 0 _ rfl)
 | [k0,k1],hk,hv,x,y,z,p=>rw [GM,GM,GM]; exact S0 (Ft ns ss v k0) (Ft ns ss v k1) j ns g f ss d b v a (.mk op num den mu hu du nm cnt md [k0,k1]) A k0 k1 c w t o r l s m p rfl (y 0 _ rfl) (y 1 _ rfl)
 | [k0,k1,k2],hk,hv,x,y,z,p=>rw [GM,GM,GM,GM]; exact Sz (Ft ns ss v k0) (Ft ns ss v k1) (Ft ns ss v k2) j ns g f ss d b v a (.mk op num den mu hu du nm cnt md [k0,k1,k2]) A k0 k1 k2 c w t o r l s m p rfl (y 0 _ rfl) (y 1 _ rfl) (y 2 _ rfl)
 | _ :: _ :: _ :: _ :: _,_,_,_,_,z,_=>simp at z
theorem Oi {ns ss m:List Df} {l j g:Option Addr} {k i f:Nat} (d:ns.length≤4294967296) (a:ss.length≤4294967296) (b:m.length≤4294967296):∀ n,Od ns ss m l j g k i f n
 | 0=>fun e h A c w o=>absurd o (by cases e; unfold Ex.height; omega)
 | n + 1=>eY d a b n (Oi d a b n)
end Go.Proofs.YtkjbdagicjbjjaaGreat
namespace Go.Proofs.YtkjbdagicjbjjaaGreat
noncomputable section
open Go.RowKit
set_option maxRecDepth 100000
set_option maxHeartbeats 1000000
attribute [local irreducible] A8 BL AC AD AF Ao AY AL Aq Bb Cn BR BK At Fr
def Bg (x:Ex) (ns:List (Df)) (ss:List (Df)) (ps:List (Df)):Bool×Int×Int×Int×Int:=cond (!(Dy x)) ((false,0,0,0,1)) (Ft ns ss ps x)
def Ys (r:Bool×Int×Int×Int×Int):Value:=.tuple #[.agg ⟨[.bool (r.1),AI (r.2.1),AI (r.2.2.1),AI (r.2.2.2.1)]⟩,AI (r.2.2.2.2)]
noncomputable def kN:Code:=Tryz.f76.body.getD .skip
def tn:=AA 60 ([.code kN])
def lh:=AA 60 (AC tn)
def ACM:=AA 60 (AD lh)
def tk:=AA 60 (AF lh)
def ACL:=AA 60 (AC tk)
theorem Sy (x:Ex) (a:Option Addr) (b:Nat) (i:Option Addr) (ns:List (Df)) (p:Nat) (h:Option Addr) (ss:List (Df)) (o:Nat) (g:Option Addr) (d:List (Df)) (m:Nat) (w:World) (f:rowsEx w a x.ks) (s:rowsDf w i ns) (l:ns.length≤4294967296) (q:rowsDf w h ss) (j:ss.length≤4294967296) (r:rowsDf w g d) (k:d.length≤4294967296) (ht:DR x):Calls Tryz.prog 76 ([.agg ⟨[AI x.op,AI x.num,AI x.den,AI x.mu,AI x.hu,AI x.du,By (x.nm),AI x.cnt,AI x.md,.slice a x.ks.length b]⟩,.slice i ns.length p,.slice h ss.length o,.slice g d.length m]:List Value).toArray w fun e w'=>e=.returned (Ys (Bg x ns ss d))∧Below w.heap.size w w':=by
 refine AR (fn:=Tryz.f76) (c:=kN) (n:=22) ?_
 have K1:=Wk.start w
 refine Aj tn K1 [(0,0)] fun w1 y=>?_
 refine AQ y (JB x x.op x.num x.den x.mu x.hu x.du x.nm x.cnt x.md a x.ks.length b w1 ht (ACD (f.below y.B))) fun w2 K3=>?_
 refine AB lh K3 [] fun w3 v=>?_
 refine AG (!(Dy x)) (fun u=>?_) (fun u=>?_)
 ·refine AB ACM v [(1,0)] fun w5 K5=>?_
  exact AP K5 (1,0) (.tuple #[.agg ⟨[.bool false,AI 0,AI 0,AI 0]⟩,AI 1]) (by unfold Bg; rw [u] <;> rfl)
 ·refine AB tk v [(0,0)] fun z t=>?_
  refine AQ t (args:=[.agg ⟨[.slice i ns.length p,.slice h ss.length o,.slice g d.length m]⟩,.agg ⟨[AI x.op,AI x.num,AI x.den,AI x.mu,AI x.hu,AI x.du,By (x.nm),AI x.cnt,AI x.md,.slice a x.ks.length b]⟩]) (Oi l j k _ x 32 _ _ z (Nat.le_refl _) (by simpa [Dy] using ‹(!(Dy x))=false›) (s.below t.B) (q.below t.B) (r.below t.B) (f.below t.B)) fun w7 K7=>?_
  refine Aj ACL K7 [(1,0)] fun w8 K8=>?_
  exact AP K8 (1,0) (.tuple #[.agg ⟨[.bool ((Ft ns ss d x).1),AI ((Ft ns ss d x).2.1),AI ((Ft ns ss d x).2.2.1),AI ((Ft ns ss d x).2.2.2.1)]⟩,AI ((Ft ns ss d x).2.2.2.2)]) (by unfold Bg; rw [u] <;> rfl)
end
end Go.Proofs.YtkjbdagicjbjjaaGreat
namespace Go.Proofs.YtkjbdagicjbjjaaGreat
noncomputable section
open Go.RowKit
set_option maxRecDepth 100000
set_option maxHeartbeats 1000000
attribute [local irreducible] A8 BL AC AD AF Ao AY AL Aq Bb Cn BR BK At Fr
def Fp (d:Df) (b:Df):Bool:=cond (!(decide (d.name=b.name))) (false) (cond (cond (d.kind == 5) (true) (b.kind == 5)) (d.kind == b.kind) (cond (cond (cond (!(d.kind == b.kind)) (true) (d.kind == 1)) (true) (!((((Ah d.kind d.tb d.tm d.th d.td).1) == ((Ah b.kind b.tb b.tm b.th b.td).1)) && (((Ah d.kind d.tb d.tm d.th d.td).2.1 == (Ah b.kind b.tb b.tm b.th b.td).2.1) && (((Ah d.kind d.tb d.tm d.th d.td).2.2.1 == (Ah b.kind b.tb b.tm b.th b.td).2.2.1) && ((Ah d.kind d.tb d.tm d.th d.td).2.2.2 == (Ah b.kind b.tb b.tm b.th b.td).2.2.2)))))) (true) (d.frm == b.frm)))
noncomputable def lA:Code:=Tryz.f49.body.getD .skip
def xj:=Ai 1 ([.code lA])
def mX:=AA 60 (AL xj)
def ADJ:=AA 60 (AD mX)
def xi:=Ai 3 (AF mX)
def mW:=AA 60 (AL xi)
def ADI:=AA 60 (AD mW)
def xh:=Ai 5 (AF mW)
def ADH:=AA 60 (AL xh)
theorem W7 (d:Df) (i:Option Addr) (o:Nat) (h:Option Addr) (m:Nat) (b:Df) (g:Option Addr) (l:Nat) (f:Option Addr) (j:Nat) (w:World) (b0:Cb w i d.ents) (a0:rowsEx w h d.body.ks) (d0:Cb w g b.ents) (c0:rowsEx w f b.body.ks):Calls Tryz.prog 49 ([.agg ⟨[AI d.kind,By (d.name),.bool (d.tb),AI d.tm,AI d.th,AI d.td,AI d.frm,.slice i d.ents.length o,AI d.body.op,AI d.body.num,AI d.body.den,AI d.body.mu,AI d.body.hu,AI d.body.du,By (d.body.nm),AI d.body.cnt,AI d.body.md,.slice h d.body.ks.length m,AI d.mode,AI d.num,AI d.den]⟩,.agg ⟨[AI b.kind,By (b.name),.bool (b.tb),AI b.tm,AI b.th,AI b.td,AI b.frm,.slice g b.ents.length l,AI b.body.op,AI b.body.num,AI b.body.den,AI b.body.mu,AI b.body.hu,AI b.body.du,By (b.body.nm),AI b.body.cnt,AI b.body.md,.slice f b.body.ks.length j,AI b.mode,AI b.num,AI b.den]⟩]:List Value).toArray w fun e w'=>e=.returned (.bool (Fp d b))∧Below w.heap.size w w':=by
 refine AR (fn:=Tryz.f49) (c:=lA) (n:=47) ?_
 have K1:=Wk.start w
 refine Bp 1 xj [⟨w.heap.size,0,(Be d i o h m),59,true⟩,⟨w.heap.size + 1,0,(Be b g l f j),59,true⟩] K1 [] fun w1 K2=>?_
 refine Ap K2 [(1,0,1),(3,1,1)] [⟨4,[(6,By (d.name)),(8,By (b.name))],.bool (!(decide (d.name=b.name))),true⟩] K2.G (fun z p=>?_) fun w2 E2 K3=>?_
 ·rw [List.mem_singleton.1 p]
  exact BG fun _ E u _=>Mr (T:=9) (T':=9) (x:=.tmp 6) (y:=.tmp 8) (by kernel_rfl) (by kernel_rfl) (by kernel_rfl)
 refine AB mX K3 [] fun w3 K4=>?_
 refine AG (!(decide (d.name=b.name))) (fun r=>?_) (fun r=>?_)
 ·refine AB ADJ K4 [] fun w5 K5=>?_
  exact AP K5 (0,0) (.bool false) (by unfold Fp; rw [r] <;> rfl)
 ·refine Am 3 xi K4 [] fun w6 K6=>?_
  refine Ap K6 [(1,0,0),(5,1,0)] [] K6.G (fun z p=>by cases p) fun w7 E7 K7=>?_
  refine AB mW K7 [] fun w8 K8=>?_
  refine AG (cond (d.kind == 5) (true) (b.kind == 5)) (fun s=>?_) (fun s=>?_)
  ·refine AB ADI K8 [(0,0),(1,0)] fun i0 K9=>?_
   exact AP K9 (0,0) (.bool (d.kind == b.kind)) (by unfold Fp; rw [r,s] <;> rfl)
  ·refine Am 5 xh K8 [] fun h0 q=>?_
   refine Ap q [(1,0,0),(3,1,0),(7,0,0),(11,0,0),(13,1,0),(19,0,6),(21,1,6)] [⟨12,[(34,.agg ⟨[AI d.kind,By (d.name),.bool (d.tb),AI d.tm,AI d.th,AI d.td,AI d.frm,.slice i d.ents.length o,AI d.body.op,AI d.body.num,AI d.body.den,AI d.body.mu,AI d.body.hu,AI d.body.du,By (d.body.nm),AI d.body.cnt,AI d.body.md,.slice h d.body.ks.length m,AI d.mode,AI d.num,AI d.den]⟩)],D9 (Ah d.kind d.tb d.tm d.th d.td),(!(cond (!(d.kind == b.kind)) (true) (d.kind == 1))) && (true)⟩,⟨14,[(36,.agg ⟨[AI b.kind,By (b.name),.bool (b.tb),AI b.tm,AI b.th,AI b.td,AI b.frm,.slice g b.ents.length l,AI b.body.op,AI b.body.num,AI b.body.den,AI b.body.mu,AI b.body.hu,AI b.body.du,By (b.body.nm),AI b.body.cnt,AI b.body.md,.slice f b.body.ks.length j,AI b.mode,AI b.num,AI b.den]⟩)],D9 (Ah b.kind b.tb b.tm b.th b.td),(!(cond (!(d.kind == b.kind)) (true) (d.kind == 1))) && (true)⟩,⟨15,[(35,D9 (Ah d.kind d.tb d.tm d.th d.td)),(37,D9 (Ah b.kind b.tb b.tm b.th b.td))],.bool (!((((Ah d.kind d.tb d.tm d.th d.td).1) == ((Ah b.kind b.tb b.tm b.th b.td).1)) && (((Ah d.kind d.tb d.tm d.th d.td).2.1 == (Ah b.kind b.tb b.tm b.th b.td).2.1) && (((Ah d.kind d.tb d.tm d.th d.td).2.2.1 == (Ah b.kind b.tb b.tm b.th b.td).2.2.1) && ((Ah d.kind d.tb d.tm d.th d.td).2.2.2 == (Ah b.kind b.tb b.tm b.th b.td).2.2.2))))),(!(cond (!(d.kind == b.kind)) (true) (d.kind == 1))) && (true)⟩] q.G (fun z p=>?_) fun g0 j0 v=>?_
   ·simp only [List.mem_cons,List.not_mem_nil,or_false] at p
    rcases p with rfl | rfl | rfl
    ·exact AV 73 [.tmp 34] [.agg ⟨[AI d.kind,By (d.name),.bool (d.tb),AI d.tm,AI d.th,AI d.td,AI d.frm,.slice i d.ents.length o,AI d.body.op,AI d.body.num,AI d.body.den,AI d.body.mu,AI d.body.hu,AI d.body.du,By (d.body.nm),AI d.body.cnt,AI d.body.md,.slice h d.body.ks.length m,AI d.mode,AI d.num,AI d.den]⟩] (fun _=>by kernel_rfl) fun hc u hu=>AN hu (Iv d.kind d.name d.tb d.tm d.th d.td d.frm i d.ents.length o d.body.op d.body.num d.body.den d.body.mu d.body.hu d.body.du d.body.nm d.body.cnt d.body.md h d.body.ks.length m d.mode d.num d.den u)
    ·exact AV 73 [.tmp 36] [.agg ⟨[AI b.kind,By (b.name),.bool (b.tb),AI b.tm,AI b.th,AI b.td,AI b.frm,.slice g b.ents.length l,AI b.body.op,AI b.body.num,AI b.body.den,AI b.body.mu,AI b.body.hu,AI b.body.du,By (b.body.nm),AI b.body.cnt,AI b.body.md,.slice f b.body.ks.length j,AI b.mode,AI b.num,AI b.den]⟩] (fun _=>by kernel_rfl) fun hc u hu=>AN hu (Iv b.kind b.name b.tb b.tm b.th b.td b.frm g b.ents.length l b.body.op b.body.num b.body.den b.body.mu b.body.hu b.body.du b.body.nm b.body.cnt b.body.md f b.body.ks.length j b.mode b.num b.den u)
    ·exact BG fun _ E u _=>Cy (k:=.neq) (T:=56) (a:=D9 (Ah d.kind d.tb d.tm d.th d.td)) (b:=D9 (Ah b.kind b.tb b.tm b.th b.td)) (Qf u ((Ah d.kind d.tb d.tm d.th d.td).1) ((Ah d.kind d.tb d.tm d.th d.td).2.1) ((Ah d.kind d.tb d.tm d.th d.td).2.2.1) ((Ah d.kind d.tb d.tm d.th d.td).2.2.2) ((Ah b.kind b.tb b.tm b.th b.td).1) ((Ah b.kind b.tb b.tm b.th b.td).2.1) ((Ah b.kind b.tb b.tm b.th b.td).2.2.1) ((Ah b.kind b.tb b.tm b.th b.td).2.2.2))
   refine AB ADH v [] fun e0 t=>?_
   exact AP t (0,0) (.bool (cond (cond (cond (!(d.kind == b.kind)) (true) (d.kind == 1)) (true) (!((((Ah d.kind d.tb d.tm d.th d.td).1) == ((Ah b.kind b.tb b.tm b.th b.td).1)) && (((Ah d.kind d.tb d.tm d.th d.td).2.1 == (Ah b.kind b.tb b.tm b.th b.td).2.1) && (((Ah d.kind d.tb d.tm d.th d.td).2.2.1 == (Ah b.kind b.tb b.tm b.th b.td).2.2.1) && ((Ah d.kind d.tb d.tm d.th d.td).2.2.2 == (Ah b.kind b.tb b.tm b.th b.td).2.2.2)))))) (true) (d.frm == b.frm))) (by unfold Fp; rw [r,s] <;> rfl)
def Al (d:Df):Bool:=cond (d.kind == 3) (true) (d.kind == 4)
noncomputable def lK:Code:=Tryz.f57.body.getD .skip
def yL:=Ai 1 ([.code lK])
def ADZ:=AA 60 (AL yL)
theorem GU (d:Df) (b:Option Addr) (g:Nat) (a:Option Addr) (f:Nat) (w:World) (j:Cb w b d.ents) (i:rowsEx w a d.body.ks):Calls Tryz.prog 57 ([.agg ⟨[AI d.kind,By (d.name),.bool (d.tb),AI d.tm,AI d.th,AI d.td,AI d.frm,.slice b d.ents.length g,AI d.body.op,AI d.body.num,AI d.body.den,AI d.body.mu,AI d.body.hu,AI d.body.du,By (d.body.nm),AI d.body.cnt,AI d.body.md,.slice a d.body.ks.length f,AI d.mode,AI d.num,AI d.den]⟩]:List Value).toArray w fun e w'=>e=.returned (.bool (Al d))∧Below w.heap.size w w':=by
 refine AR (fn:=Tryz.f57) (c:=lK) (n:=11) ?_
 have o:=Wk.start w
 refine Bp 1 yL [⟨w.heap.size,0,(Be d b g a f),59,true⟩] o [] fun r k=>?_
 refine Ap k [(1,0,0),(5,0,0)] [] k.G (fun s h=>by cases h) fun q t m=>?_
 refine AB ADZ m [] fun p l=>?_
 exact AP l (0,0) (.bool (cond (d.kind == 3) (true) (d.kind == 4))) (by unfold Al; rfl)
end
end Go.Proofs.YtkjbdagicjbjjaaGreat
namespace Go.Proofs.YtkjbdagicjbjjaaGreat
noncomputable section
open Go.RowKit
set_option maxRecDepth 100000
set_option maxHeartbeats 1000000
attribute [local irreducible] A8 BL AC AD AF Ao AY AL Aq Bb Cn BR BK At Fr
def Cv (ds:List (Df)) (p1:Int) (i:Nat):List (Df)→Nat→Bool→Bool
 | [],i0,a0_0=>false
 | e0 :: tl,i0,a0_0=>cond (cond (cond (!(e0.kind == (ds.getD i default).kind)) (true) (!(decide (e0.name=(ds.getD i default).name)))) (true) (decide (p1 < e0.frm))) (Cv ds p1 i tl (i0 + 1) a0_0) (cond (cond (decide ((ds.getD i default).frm < e0.frm)) (true) (cond (e0.frm == (ds.getD i default).frm) (decide ((i0:Int) < (i:Int))) (false))) (true) (Cv ds p1 i tl (i0 + 1) a0_0))
theorem N4 {ds:List (Df)} {p1:Int} {i:Nat} {b:Nat} {a:Bool}:Cv ds p1 i [] b a=(false):=by rw [Cv]
theorem Nb {ds:List (Df)} {p1:Int} {i:Nat} {a:Bool} {es:List (Df)} (b:Nat) (c:Df) (hi:es[b]?=some c):Cv ds p1 i (es.drop b) b a=(cond (cond (cond (!(c.kind == (ds.getD i default).kind)) (true) (!(decide (c.name=(ds.getD i default).name)))) (true) (decide (p1 < c.frm))) (Cv ds p1 i (es.drop (b + 1)) (b + 1) a) (cond (cond (decide ((ds.getD i default).frm < c.frm)) (true) (cond (c.frm == (ds.getD i default).frm) (decide ((b:Int) < (i:Int))) (false))) (true) (Cv ds p1 i (es.drop (b + 1)) (b + 1) a))):=by
 have hl:b < es.length:=(List.getElem?_eq_some_iff.1 hi).1
 have he:es[b]=c:=(List.getElem?_eq_some_iff.1 hi).2
 rw [← List.getElem_cons_drop hl,Cv] <;> (try rw [he])
def DL (ds:List (Df)) (p1:Int) (i:Nat):Bool:=Cv ds p1 i ds 0 false
noncomputable def WO:Code:=Tryz.f81.body.getD .skip
def yA:=AA (Ak Aa 90 ([.code WO])) ([.code WO])
def cv:=AA 60 (AC (AC yA))
def cu:=AA 60 (Ao cv)
def xz:=AA (Ak Aa 90 (AD cu)) (AD cu)
def xy:=Ai 5 (AC (AC xz))
def xx:=AA 60 (AL xy)
def xw:=Ai 6 (AF xx)
def xv:=AA 60 (AL xw)
def ADT:=AA 60 (AD xv)
def ADS:=AA 60 (AF cu)
theorem VQ (z0:List UInt8) (c0:Option Addr) (ds:List (Df)) (l:Nat) (p1:Int) (i:Nat) (w:World) (r0:rowsDf w c0 ds) (a1:ds.length≤4294967296) (d0:i < ds.length):Calls Tryz.prog 81 ([.agg ⟨[By z0,.slice c0 ds.length l]⟩,AI p1,AI ((i:Int))]:List Value).toArray w fun e w'=>e=.returned (.bool (DL ds p1 i))∧Below w.heap.size w w':=by
 refine AR (fn:=Tryz.f81) (c:=WO) (n:=59) ?_
 have K1:=Wk.start w
 obtain ⟨q,r,rfl,g0,h0⟩:=r0.all (by omega)
 have b1:ds[i]?=some (ds.getD i default):=getD_some default d0
 obtain ⟨h,d,f,b,n0,f1,e1⟩:=h0 i _ b1
 refine Ye Aa yA K1 [(0,1)] fun w1 K2=>?_
 refine Au (g:=q) (off:=r) (cap:=l) (sz:=21) (k:=i) (len:=ds.length) (some 13) d0 Tryz.underlying25 ?_
 refine BI 59 q (r + i * 21) [AI ((ds.getD i default).kind),By ((ds.getD i default).name),.bool ((ds.getD i default).tb),AI ((ds.getD i default).tm),AI ((ds.getD i default).th),AI ((ds.getD i default).td),AI ((ds.getD i default).frm),.slice h ((ds.getD i default).ents.length) d,AI ((ds.getD i default).body.op),AI ((ds.getD i default).body.num),AI ((ds.getD i default).body.den),AI ((ds.getD i default).body.mu),AI ((ds.getD i default).body.hu),AI ((ds.getD i default).body.du),By ((ds.getD i default).body.nm),AI ((ds.getD i default).body.cnt),AI ((ds.getD i default).body.md),.slice f ((ds.getD i default).body.ks.length) b,AI ((ds.getD i default).mode),AI ((ds.getD i default).num),AI ((ds.getD i default).den)] (some 14) (Ab n0 g0 K2.B) ?_
 refine Aj cv K2 [(1,0),(0,1)] fun w2 K3=>?_
 have K4:Wk w w2 [⟨w1.heap.size,0,(Be (ds.getD i default) h d f b),59,true⟩] [] []:=K3.pk [1] []
 have o:(DL ds p1 i)=Cv ds p1 i ds 0 false:=by unfold DL; rfl
 refine AU [(1,AI p1),(2,AI ((i:Int))),(6,.bool false),(7,BY (w1.heap.size)),(16,.slice (some ⟨q,r,none⟩) ds.length l),(17,AI ((ds.length:Int))),(18,AI (((0:Nat):Int)))] fun E3=>?_
 refine Bd (by kernel_rfl) (fun E l0=>∃ (j:Nat) (m:Bool) (E0:Nat→Value),j≤ds.length∧E=BC E0 [(1,AI p1),(2,AI ((i:Int))),(6,.bool m),(7,BY (w1.heap.size)),(16,.slice (some ⟨q,r,none⟩) ds.length l),(17,AI ((ds.length:Int))),(18,AI ((j:Int)))]∧(DL ds p1 i)=Cv ds p1 i (List.drop j ds) j m∧Wk w l0 [⟨w1.heap.size,0,(Be (ds.getD i default) h d f b),59,true⟩] [] []) (fun E _=>ds.length - AK (E 18)) ⟨0,false,E3,Nat.zero_le _,rfl,o,K4⟩ ?_
 clear o
 rintro E l0 ⟨j,m,E0,z1,rfl,o,K5⟩ p
 refine AB cu K5 [] fun w5 K6=>?_
 refine AG (decide ((j:Int) < (ds.length:Int))) (fun c6=>?_) (fun c6=>?_)
 ·have s:j < ds.length:=by have:=of_decide_eq_true c6; omega
  obtain ⟨a,q0⟩:∃ e,ds[j]?=some e:=⟨_,List.getElem?_eq_getElem s⟩
  rw [Nb j a q0] at o
  obtain ⟨a0,v,z,t,m0,d1,c1⟩:=h0 j _ q0
  refine Ae Aa xz K6 [] fun w7 K7=>?_
  refine Au (g:=q) (off:=r) (cap:=l) (sz:=21) (k:=j) (len:=ds.length) (some 21) s Tryz.underlying25 ?_
  refine BI 59 q (r + j * 21) [AI a.kind,By (a.name),.bool (a.tb),AI a.tm,AI a.th,AI a.td,AI a.frm,.slice a0 a.ents.length v,AI a.body.op,AI a.body.num,AI a.body.den,AI a.body.mu,AI a.body.hu,AI a.body.du,By (a.body.nm),AI a.body.cnt,AI a.body.md,.slice z a.body.ks.length t,AI a.mode,AI a.num,AI a.den] (some 22) (Ab m0 g0 K7.B) ?_
  refine Bp 5 xy [⟨w1.heap.size,0,(Be (ds.getD i default) h d f b),59,true⟩,⟨w7.heap.size,0,(Be a a0 v z t),59,true⟩] K7 [(1,0)] fun w8 K8=>?_
  refine Ap K8 [(1,1,0),(3,0,0),(7,1,1),(9,0,1),(14,1,6)] [⟨10,[(30,By (a.name)),(32,By ((ds.getD i default).name))],.bool (!(decide (a.name=(ds.getD i default).name))),(!(!(a.kind == (ds.getD i default).kind))) && (true)⟩] K8.G (fun sp j0=>?_) fun w9 E9 K9=>?_
  ·rw [List.mem_singleton.1 j0]
   exact BG fun _ E u _=>Mr (T:=9) (T':=9) (x:=.tmp 30) (y:=.tmp 32) (by kernel_rfl) (by kernel_rfl) (by kernel_rfl)
  refine AB xx K9 [] fun x1 v0=>?_
  refine AG (cond (cond (!(a.kind == (ds.getD i default).kind)) (true) (!(decide (a.name=(ds.getD i default).name)))) (true) (decide (p1 < a.frm))) (fun b0=>?_) (fun b0=>?_)
  ·refine AB (AY cv) v0 [] fun x0 n1=>?_
   refine AU [(1,AI p1),(2,AI ((i:Int))),(6,.bool m),(7,BY (w1.heap.size)),(16,.slice (some ⟨q,r,none⟩) ds.length l),(17,AI ((ds.length:Int))),(18,AI (IntKind.i64.wrap ((j:Int) + 1)))] fun q1=>?_
   have m1:Wk w x0 [⟨w1.heap.size,0,(Be (ds.getD i default) h d f b),59,true⟩] [] []:=n1.pk [0] []
   rw [Bc j (by omega)]
   refine p _ _ ⟨j + 1,m,q1,s,rfl,by rw [o,b0] <;> rfl,m1⟩ ?_
   show ds.length - AK (AI ((j + 1:Nat):Int)) < ds.length - AK (AI (j:Int))
   simp only [AK]
   omega
  ·refine Am 6 xw v0 [] fun v1 t0=>?_
   refine Ap t0 [(1,1,6),(3,0,6),(7,1,6),(9,0,6)] [] t0.G (fun sp j0=>by cases j0) fun u1 a2 l1=>?_
   refine AB xv l1 [] fun t1 s0=>?_
   refine AG (cond (decide ((ds.getD i default).frm < a.frm)) (true) (cond (a.frm == (ds.getD i default).frm) (decide ((j:Int) < (i:Int))) (false))) (fun k0=>?_) (fun k0=>?_)
   ·refine AB ADT s0 [] fun s1 k1=>?_
    exact AP k1 (0,0) (.bool true) (by rw [o,b0,k0] <;> rfl)
   ·refine AB (AY cv) s0 [] fun w0 i1=>?_
    refine AU [(1,AI p1),(2,AI ((i:Int))),(6,.bool m),(7,BY (w1.heap.size)),(16,.slice (some ⟨q,r,none⟩) ds.length l),(17,AI ((ds.length:Int))),(18,AI (IntKind.i64.wrap ((j:Int) + 1)))] fun o1=>?_
    have h1:Wk w w0 [⟨w1.heap.size,0,(Be (ds.getD i default) h d f b),59,true⟩] [] []:=i1.pk [0] []
    rw [Bc j (by omega)]
    refine p _ _ ⟨j + 1,m,o1,s,rfl,by rw [o,b0,k0] <;> rfl,h1⟩ ?_
    show ds.length - AK (AI ((j + 1:Nat):Int)) < ds.length - AK (AI (j:Int))
    simp only [AK]
    omega
 ·have p0:j=ds.length:=by have:=of_decide_eq_false c6; omega
  rw [p0,List.drop_length,N4] at o
  refine AB ADS K6 [] fun r1 g1=>?_
  exact AP g1 (0,0) (.bool false) (by rw [o] <;> rfl)
end
end Go.Proofs.YtkjbdagicjbjjaaGreat
namespace Go.Proofs.YtkjbdagicjbjjaaGreat
noncomputable section
open Go.RowKit
set_option maxRecDepth 100000
set_option maxHeartbeats 1000000
attribute [local irreducible] A8 BL AC AD AF Ao AY AL Aq Bb Cn BR BK At Fr
theorem rowsDf.agr {w:World} {A:Option Addr} {c:Nat} {nm:List UInt8} {ds:List Df} (h:rowsDf w A ds):WZ w nm ds [By nm,.slice A ds.length c]:=
 let ⟨rs,h1,h2⟩:=h
 ⟨A,c,rs,rfl,h1,h2⟩
def DF (p0a:List UInt8) (ds:List (Df)) (p1:Int):Int:=cond (!(Fz p0a ds)) (1) (cond (cond (decide (p1 < 0)) (true) (decide (84005 < p1))) (2) (0))
noncomputable def lJ:Code:=Tryz.f54.body.getD .skip
def yK:=AA 60 ([.code lJ])
def mo:=AA 60 (AC yK)
def ADY:=AA 60 (AD mo)
def yJ:=Ai 3 (AF mo)
def mn:=AA 60 (AL yJ)
def ADX:=AA 60 (AD mn)
def ADW:=AA 60 (AF mn)
theorem MA (a:List UInt8) (b:Option Addr) (ds:List (Df)) (f:Nat) (p1:Int) (w:World) (h:rowsDf w b ds) (g:ds.length≤4294967296) (hs:a.length≤4294967296) (ht:∀ d∈ds,FU d):Calls Tryz.prog 54 ([.agg ⟨[By a,.slice b ds.length f]⟩,AI p1]:List Value).toArray w fun e w'=>e=.returned (AI (DF a ds p1))∧Below w.heap.size w w':=by
 refine AR (fn:=Tryz.f54) (c:=lJ) (n:=14) ?_
 have z:=Wk.start w
 refine Af yK [⟨w.heap.size,0,[By a,.slice b ds.length f],27,true⟩] z [(0,0)] fun t q=>?_
 refine AQ q (args:=[.agg ⟨[By a,.slice b ds.length f]⟩]) (Oh a ds _ t hs g ht (h.below q.B).agr) fun w2 y=>?_
 refine AB mo y [] fun w3 p=>?_
 refine AG (!(Fz a ds)) (fun i=>?_) (fun i=>?_)
 ·refine AB ADY p [] fun w5 x=>?_
  exact AP x (0,0) (AI 1) (by unfold DF; rw [i] <;> rfl)
 ·refine Am 3 yJ p [] fun w6 o=>?_
  refine Ap o [] [] o.G (fun sp j=>by cases j) fun w7 E7 v=>?_
  refine AB mn v [] fun w8 m=>?_
  refine AG (cond (decide (p1 < 0)) (true) (decide (84005 < p1))) (fun k=>?_) (fun k=>?_)
  ·refine AB ADX m [] fun s u=>?_
   exact AP u (0,0) (AI 2) (by unfold DF; rw [i,k] <;> rfl)
  ·refine AB ADW m [] fun r l=>?_
   exact AP l (0,0) (AI 0) (by unfold DF; rw [i,k] <;> rfl)
end
end Go.Proofs.YtkjbdagicjbjjaaGreat
namespace Go.Proofs.YtkjbdagicjbjjaaGreat
noncomputable section
open Go.RowKit
set_option maxRecDepth 100000
set_option maxHeartbeats 1000000
attribute [local irreducible] A8 BL AC AD AF Ao AY AL Aq Bb Cn BR BK At Fr
def C9 (d:Df) (ns:List (Df)) (ss:List (Df)) (ps:List (Df)):Int:=cond (!((Bg d.body ns ss ps).2.2.2.2 == 0)) ((Bg d.body ns ss ps).2.2.2.2) (Gz ((Bg d.body ns ss ps).1) ((Bg d.body ns ss ps).2.1) ((Bg d.body ns ss ps).2.2.1) ((Bg d.body ns ss ps).2.2.2.1) ((Ah d.kind d.tb d.tm d.th d.td).1) ((Ah d.kind d.tb d.tm d.th d.td).2.1) ((Ah d.kind d.tb d.tm d.th d.td).2.2.1) ((Ah d.kind d.tb d.tm d.th d.td).2.2.2))
noncomputable def lB:Code:=Tryz.f51.body.getD .skip
def xl:=AA 60 ([.code lB])
def mY:=AA 60 (AC xl)
def ADL:=AA 60 (AD mY)
def xk:=Ai 4 (AF mY)
def ADK:=AA 60 (AL xk)
theorem R6 (d:Df) (g:Option Addr) (h:Nat) (b:Option Addr) (f:Nat) (k:Option Addr) (ns:List (Df)) (o:Nat) (j:Option Addr) (ss:List (Df)) (m:Nat) (i:Option Addr) (a:List (Df)) (l:Nat) (w:World) (a0:Cb w g d.ents) (t:rowsEx w b d.body.ks) (s:rowsDf w k ns) (z:ns.length≤4294967296) (q:rowsDf w j ss) (x:ss.length≤4294967296) (r:rowsDf w i a) (y:a.length≤4294967296) (ht:DR d.body):Calls Tryz.prog 51 ([.agg ⟨[AI d.kind,By (d.name),.bool (d.tb),AI d.tm,AI d.th,AI d.td,AI d.frm,.slice g d.ents.length h,AI d.body.op,AI d.body.num,AI d.body.den,AI d.body.mu,AI d.body.hu,AI d.body.du,By (d.body.nm),AI d.body.cnt,AI d.body.md,.slice b d.body.ks.length f,AI d.mode,AI d.num,AI d.den]⟩,.slice k ns.length o,.slice j ss.length m,.slice i a.length l]:List Value).toArray w fun e w'=>e=.returned (AI (C9 d ns ss a))∧Below w.heap.size w w':=by
 refine AR (fn:=Tryz.f51) (c:=lB) (n:=27) ?_
 have K1:=Wk.start w
 refine Aj xl K1 [(0,8)] fun w1 v=>?_
 refine AQ v (Sy d.body b f k ns o j ss m i a l w1 (t.below v.B) (s.below v.B) (by first | assumption | omega | (simp <;> omega)) (q.below v.B) (by first | assumption | omega | (simp <;> omega)) (r.below v.B) (by first | assumption | omega | (simp <;> omega)) ht) fun w2 K3=>?_
 refine Af mY [⟨w.heap.size,0,(Be d g h b f),59,true⟩,⟨w2.heap.size,0,[.bool ((Bg d.body ns ss a).1),AI ((Bg d.body ns ss a).2.1),AI ((Bg d.body ns ss a).2.2.1),AI ((Bg d.body ns ss a).2.2.2.1)],56,true⟩] K3 [(1,0)] fun w3 K4=>?_
 refine AG (!((Bg d.body ns ss a).2.2.2.2 == 0)) (fun c4=>?_) (fun c4=>?_)
 ·refine AB ADL K4 [] fun w5 K5=>?_
  exact AP K5 (0,0) (AI ((Bg d.body ns ss a).2.2.2.2)) (by unfold C9; rw [c4] <;> rfl)
 ·refine Am 4 xk K4 [] fun w6 K6=>?_
  refine Ap K6 [(0,1,0),(1,0,0)] [⟨2,[(24,.agg ⟨[AI d.kind,By (d.name),.bool (d.tb),AI d.tm,AI d.th,AI d.td,AI d.frm,.slice g d.ents.length h,AI d.body.op,AI d.body.num,AI d.body.den,AI d.body.mu,AI d.body.hu,AI d.body.du,By (d.body.nm),AI d.body.cnt,AI d.body.md,.slice b d.body.ks.length f,AI d.mode,AI d.num,AI d.den]⟩)],D9 (Ah d.kind d.tb d.tm d.th d.td),true⟩,⟨3,[(23,.agg ⟨[.bool ((Bg d.body ns ss a).1),AI ((Bg d.body ns ss a).2.1),AI ((Bg d.body ns ss a).2.2.1),AI ((Bg d.body ns ss a).2.2.2.1)]⟩),(25,D9 (Ah d.kind d.tb d.tm d.th d.td))],AI (Gz ((Bg d.body ns ss a).1) ((Bg d.body ns ss a).2.1) ((Bg d.body ns ss a).2.2.1) ((Bg d.body ns ss a).2.2.2.1) ((Ah d.kind d.tb d.tm d.th d.td).1) ((Ah d.kind d.tb d.tm d.th d.td).2.1) ((Ah d.kind d.tb d.tm d.th d.td).2.2.1) ((Ah d.kind d.tb d.tm d.th d.td).2.2.2)),true⟩] K6.G (fun sp p=>?_) fun w7 E7 K7=>?_
  ·simp only [List.mem_cons,List.not_mem_nil,or_false] at p
   rcases p with rfl | rfl
   ·exact AV 73 [.tmp 24] [.agg ⟨[AI d.kind,By (d.name),.bool (d.tb),AI d.tm,AI d.th,AI d.td,AI d.frm,.slice g d.ents.length h,AI d.body.op,AI d.body.num,AI d.body.den,AI d.body.mu,AI d.body.hu,AI d.body.du,By (d.body.nm),AI d.body.cnt,AI d.body.md,.slice b d.body.ks.length f,AI d.mode,AI d.num,AI d.den]⟩] (fun _=>by kernel_rfl) fun hc u hu=>AN hu (Iv d.kind d.name d.tb d.tm d.th d.td d.frm g d.ents.length h d.body.op d.body.num d.body.den d.body.mu d.body.hu d.body.du d.body.nm d.body.cnt d.body.md b d.body.ks.length f d.mode d.num d.den u)
   ·exact AV 75 [.tmp 23,.tmp 25] [.agg ⟨[.bool ((Bg d.body ns ss a).1),AI ((Bg d.body ns ss a).2.1),AI ((Bg d.body ns ss a).2.2.1),AI ((Bg d.body ns ss a).2.2.2.1)]⟩,D9 (Ah d.kind d.tb d.tm d.th d.td)] (fun _=>by kernel_rfl) fun hc u hu=>AN hu (Rm ((Bg d.body ns ss a).1) ((Bg d.body ns ss a).2.1) ((Bg d.body ns ss a).2.2.1) ((Bg d.body ns ss a).2.2.2.1) ((Ah d.kind d.tb d.tm d.th d.td).1) ((Ah d.kind d.tb d.tm d.th d.td).2.1) ((Ah d.kind d.tb d.tm d.th d.td).2.2.1) ((Ah d.kind d.tb d.tm d.th d.td).2.2.2) u)
  refine AB ADK K7 [] fun w8 K8=>?_
  exact AP K8 (0,0) (AI (Gz ((Bg d.body ns ss a).1) ((Bg d.body ns ss a).2.1) ((Bg d.body ns ss a).2.2.1) ((Bg d.body ns ss a).2.2.2.1) ((Ah d.kind d.tb d.tm d.th d.td).1) ((Ah d.kind d.tb d.tm d.th d.td).2.1) ((Ah d.kind d.tb d.tm d.th d.td).2.2.1) ((Ah d.kind d.tb d.tm d.th d.td).2.2.2))) (by unfold C9; rw [c4] <;> rfl)
end
end Go.Proofs.YtkjbdagicjbjjaaGreat

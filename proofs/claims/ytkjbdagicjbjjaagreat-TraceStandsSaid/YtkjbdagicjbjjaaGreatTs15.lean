/- Contracts of functions, part 15. -/
import Derived.Test.YtkjbdagicjbjjaaGreatTs14
set_option linter.all false
namespace Go.Proofs.YtkjbdagicjbjjaaGreat
noncomputable section
open Go.RowKit
set_option maxRecDepth 100000
set_option maxHeartbeats 1000000
attribute [local irreducible] BD BP AC AD AF Ar AZ AM Aw Bk C6 BV BO At Fr
def ABz (ns ss ps:List Df) (x:Ex):List I2→I2
 | []=>UX ns ss ps x
 | [r0]=>JT r0 ns ss ps x
 | [r0,r1]=>Lp r0 r1 ns ss ps x
 | [r0,r1,r2]=>KM r0 r1 r2 ns ss ps x
 | _=>(false,0,0,0,1)
mutual
def ED (ns ss ps:List Df):Ex→I2
 | .mk op num den mu hu du nm cnt md kids=>ABz ns ss ps (.mk op num den mu hu du nm cnt md kids) (Gs ns ss ps kids)
def Gs (ns ss ps:List Df):List Ex→List I2
 | []=>[]
 | e :: es=>ED ns ss ps e :: Gs ns ss ps es
end
theorem iJ {op num den mu hu du:Int} {nm:List UInt8} {cnt md:Int} {kids:List Ex} {h:Int} (hv:Fu (.mk op num den mu hu du nm cnt md kids) h=true):(kids.length:Int)=DB op∧GM kids (h - 1)=true:=by
 rw [Fu] at hv
 cases h1:cond (decide (h < 1)) true (!((kids.length:Int) == DB op)) with
 | true=>rw [h1] at hv; exact nomatch hv
 | false=>
  rw [h1] at hv
  have h2:((kids.length:Int) == DB op)=true:=by
   cases h3:decide (h < 1) with
   | true=>rw [h3] at h1; exact nomatch h1
   | false=>rw [h3] at h1; cases h4:((kids.length:Int) == DB op) with
    | true=>rfl
    | false=>rw [h4] at h1; exact nomatch h1
  refine ⟨eq_of_beq h2,?_⟩
  cases h5:CO op num den mu hu du nm cnt md with
  | true=>rw [h5] at hv; exact hv
  | false=>rw [h5] at hv; exact nomatch hv
theorem Sd {h:Int}:∀ {kids:List Ex} {i:Nat} {e:Ex},GM kids h=true→kids[i]?=some e→Fu e h=true
 | [],_,_,_,hi=>by simp at hi
 | x :: es,i,e,hv,hi=>by
  rw [GM] at hv
  cases h1:Fu x h with
  | false=>rw [h1] at hv; exact nomatch hv
  | true=>
   rw [h1] at hv
   cases i with
   | zero=>simp at hi; subst hi; exact h1
   | succ i=>exact Sd (i:=i) hv (by simpa using hi)
theorem Yb {op:Int} (h:0≤DB op):op=1∨op=2∨op=3∨op=20∨op=21∨op=4∨op=16∨op=17∨op=19∨op=5∨op=6∨op=7∨op=8∨op=9∨op=10∨op=11∨op=12∨op=13∨op=14∨op=15∨op=18:=by
 unfold DB at h
 cases q1:(op == 1) with
 | true=>exact .inl (eq_of_beq q1)
 | false=>
 rw [q1] at h
 cases q2:(op == 2) with
 | true=>exact .inr (.inl (eq_of_beq q2))
 | false=>
 rw [q2] at h
 cases q3:(op == 3) with
 | true=>exact .inr (.inr (.inl (eq_of_beq q3)))
 | false=>
 rw [q3] at h
 cases q20:(op == 20) with
 | true=>exact .inr (.inr (.inr (.inl (eq_of_beq q20))))
 | false=>
 rw [q20] at h
 cases q21:(op == 21) with
 | true=>exact .inr (.inr (.inr (.inr (.inl (eq_of_beq q21)))))
 | false=>
 rw [q21] at h
 cases q4:(op == 4) with
 | true=>exact .inr (.inr (.inr (.inr (.inr (.inl (eq_of_beq q4))))))
 | false=>
 rw [q4] at h
 cases q16:(op == 16) with
 | true=>exact .inr (.inr (.inr (.inr (.inr (.inr (.inl (eq_of_beq q16)))))))
 | false=>
 rw [q16] at h
 cases q17:(op == 17) with
 | true=>exact .inr (.inr (.inr (.inr (.inr (.inr (.inr (.inl (eq_of_beq q17))))))))
 | false=>
 rw [q17] at h
 cases q19:(op == 19) with
 | true=>exact .inr (.inr (.inr (.inr (.inr (.inr (.inr (.inr (.inl (eq_of_beq q19)))))))))
 | false=>
 rw [q19] at h
 cases q5:(op == 5) with
 | true=>exact .inr (.inr (.inr (.inr (.inr (.inr (.inr (.inr (.inr (.inl (eq_of_beq q5))))))))))
 | false=>
 rw [q5] at h
 cases q6:(op == 6) with
 | true=>exact .inr (.inr (.inr (.inr (.inr (.inr (.inr (.inr (.inr (.inr (.inl (eq_of_beq q6)))))))))))
 | false=>
 rw [q6] at h
 cases q7:(op == 7) with
 | true=>exact .inr (.inr (.inr (.inr (.inr (.inr (.inr (.inr (.inr (.inr (.inr (.inl (eq_of_beq q7))))))))))))
 | false=>
 rw [q7] at h
 cases q8:(op == 8) with
 | true=>exact .inr (.inr (.inr (.inr (.inr (.inr (.inr (.inr (.inr (.inr (.inr (.inr (.inl (eq_of_beq q8)))))))))))))
 | false=>
 rw [q8] at h
 cases q9:(op == 9) with
 | true=>exact .inr (.inr (.inr (.inr (.inr (.inr (.inr (.inr (.inr (.inr (.inr (.inr (.inr (.inl (eq_of_beq q9))))))))))))))
 | false=>
 rw [q9] at h
 cases q10:(op == 10) with
 | true=>exact .inr (.inr (.inr (.inr (.inr (.inr (.inr (.inr (.inr (.inr (.inr (.inr (.inr (.inr (.inl (eq_of_beq q10)))))))))))))))
 | false=>
 rw [q10] at h
 cases q11:(op == 11) with
 | true=>exact .inr (.inr (.inr (.inr (.inr (.inr (.inr (.inr (.inr (.inr (.inr (.inr (.inr (.inr (.inr (.inl (eq_of_beq q11))))))))))))))))
 | false=>
 rw [q11] at h
 cases q12:(op == 12) with
 | true=>exact .inr (.inr (.inr (.inr (.inr (.inr (.inr (.inr (.inr (.inr (.inr (.inr (.inr (.inr (.inr (.inr (.inl (eq_of_beq q12)))))))))))))))))
 | false=>
 rw [q12] at h
 cases q13:(op == 13) with
 | true=>exact .inr (.inr (.inr (.inr (.inr (.inr (.inr (.inr (.inr (.inr (.inr (.inr (.inr (.inr (.inr (.inr (.inr (.inl (eq_of_beq q13))))))))))))))))))
 | false=>
 rw [q13] at h
 cases q14:(op == 14) with
 | true=>exact .inr (.inr (.inr (.inr (.inr (.inr (.inr (.inr (.inr (.inr (.inr (.inr (.inr (.inr (.inr (.inr (.inr (.inr (.inl (eq_of_beq q14)))))))))))))))))))
 | false=>
 rw [q14] at h
 cases q15:(op == 15) with
 | true=>exact .inr (.inr (.inr (.inr (.inr (.inr (.inr (.inr (.inr (.inr (.inr (.inr (.inr (.inr (.inr (.inr (.inr (.inr (.inr (.inl (eq_of_beq q15))))))))))))))))))))
 | false=>
 rw [q15] at h
 cases q18:(op == 18) with
 | true=>exact .inr (.inr (.inr (.inr (.inr (.inr (.inr (.inr (.inr (.inr (.inr (.inr (.inr (.inr (.inr (.inr (.inr (.inr (.inr (.inr ((eq_of_beq q18)))))))))))))))))))))
 | false=>
 rw [q18] at h
 exact absurd h (by decide)
def P0 (ns ss ps:List Df) (p0aA p0bA p0cA:Option Addr) (p0ac p0bc p0cc n:Nat):Prop:=∀ (e:Ex) (h:Int) (A:Option Addr) (c:Nat) (w:World),e.height≤n→Fu e h=true→rowsDf w p0aA ns→rowsDf w p0bA ss→rowsDf w p0cA ps→rowsEx w A e.ks→Calls Tryz.prog 112 ([ψ [τ p0aA ns.length p0ac,τ p0bA ss.length p0bc,τ p0cA ps.length p0cc],ψ (AX e A c)]:List Value).toArray w fun en w'=>en=.returned (Js (ED ns ss ps e))∧Below (ε w) w w'
theorem iP {ns ss t:List Df} {j f b:Option Addr} {g d a:Nat} (o:ns.length≤4294967296) (l:ss.length≤4294967296) (m:t.length≤4294967296) (n:Nat) (IH:P0 ns ss t j f b g d a n):P0 ns ss t j f b g d a (n + 1):=by
 rintro ⟨op,num,den,mu,hu,du,nm,cnt,md,kids⟩ h A c w hh hv s q r p
 obtain ⟨z,hv⟩:=iJ hv
 have v:Ex.heights kids≤n:=by unfold Ex.height at hh; omega
 have x:∀ (i:Nat) (k:Ex),kids[i]?=some k→∀ u,Below (ε w) w u→∀ (A':Option Addr) (c':Nat),rowsEx u A' k.ks→Calls Tryz.prog 112 ([ψ [τ j ns.length g,τ f ss.length d,τ b t.length a],ψ (AX k A' c')]:List Value).toArray u fun en w'=>en=.returned (Js (ED ns ss t k))∧Below (ε u) u w':=fun i k hi u B A' c' hx=>
  IH k (h - 1) A' c' u (by have:=JM hi; omega) (Sd hv hi) (s.below B) (q.below B) (r.below B) hx
 rw [ED]
 have y:kids.length≤3:=by
  rcases Yb (op:=op) (by omega) with rfl | rfl | rfl | rfl | rfl | rfl | rfl | rfl | rfl | rfl | rfl | rfl | rfl | rfl | rfl | rfl | rfl | rfl | rfl | rfl | rfl <;> (have e:(kids.length:Int)≤3:=by rw [z]; decide) <;> omega
 match kids,z,hv,v,x,y,p with
 | [],z,hv,v,x,y,p=>rw [Gs]; exact UW j ns g f ss d b t a (.mk op num den mu hu du nm cnt md []) A c w s o q l r m p rfl
 | [k0],z,hv,v,x,y,p=>rw [Gs,Gs]; exact UV (ED ns ss t k0) j ns g f ss d b t a (.mk op num den mu hu du nm cnt md [k0]) A k0 c w s o q l r m p rfl (x 0 _ rfl)
 | [k0,k1],z,hv,v,x,y,p=>rw [Gs,Gs,Gs]; exact UU (ED ns ss t k0) (ED ns ss t k1) j ns g f ss d b t a (.mk op num den mu hu du nm cnt md [k0,k1]) A k0 k1 c w s o q l r m p rfl (x 0 _ rfl) (x 1 _ rfl)
 | [k0,k1,k2],z,hv,v,x,y,p=>rw [Gs,Gs,Gs,Gs]; exact UT (ED ns ss t k0) (ED ns ss t k1) (ED ns ss t k2) j ns g f ss d b t a (.mk op num den mu hu du nm cnt md [k0,k1,k2]) A k0 k1 k2 c w s o q l r m p rfl (x 0 _ rfl) (x 1 _ rfl) (x 2 _ rfl)
 | _ :: _ :: _ :: _ :: _,_,_,_,_,y,_=>simp at y
theorem P7 {ns ss m:List Df} {l j g:Option Addr} {k i f:Nat} (d:ns.length≤4294967296) (a:ss.length≤4294967296) (b:m.length≤4294967296):∀ n,P0 ns ss m l j g k i f n
 | 0=>fun e h A c w o=>absurd o (by cases e; unfold Ex.height; omega)
 | n + 1=>iP d a b n (P7 d a b n)
def Bj (x:Ex) (ns:List (Df)) (ss:List (Df)) (ps:List (Df)):Bool×Int×Int×Int×Int:=cond (!(DV x)) ((false,0,0,0,1)) (ED ns ss ps x)
def aa (r:Bool×Int×Int×Int×Int):Value:=.tuple #[ψ [ξ (r.1),δ (r.2.1),δ (r.2.2.1),δ (r.2.2.2.1)],δ (r.2.2.2.2)]
noncomputable def mm:Code:=Tryz.f76.body.getD .skip
def ww:=ν ([.code mm])
def oM:=Ω ww
def AEw:=Ξ oM
def wv:=Ψ oM
def AEv:=Ω wv
theorem US (x:Ex) (a:Option Addr) (b:Nat) (h:Option Addr) (ns:List (Df)) (p:Nat) (g:Option Addr) (ss:List (Df)) (o:Nat) (f:Option Addr) (l:List (Df)) (m:Nat) (w:World) (d:rowsEx w a x.ks) (s:rowsDf w h ns) (k:ns.length≤4294967296) (q:rowsDf w g ss) (i:ss.length≤4294967296) (r:rowsDf w f l) (j:l.length≤4294967296) (ht:Dm x):Calls Tryz.prog 76 ([ψ ((Γ x a b)),τ h ns.length p,τ g ss.length o,τ f l.length m]:List Value).toArray w fun e w'=>e=.returned (aa (Bj x ns ss l))∧Below (ε w) w w':=by
 refine AS (fn:=Tryz.f76) (c:=mm) (n:=22) ?_
 have K1:=Wk.start w
 refine Am ww K1 [(0,0)] fun w1 y=>?_
 refine AP y (Ji x x.op x.num x.den x.mu x.hu x.du x.nm x.cnt x.md a x.ks.length b w1 ht (AEm (d.below y.B))) fun w2 K3=>?_
 refine AB oM K3 [] fun w3 v=>?_
 refine AG (!(DV x)) (fun u=>?_) (fun u=>?_)
 ·refine AB AEw v [(1,0)] fun w5 K5=>?_
  exact AO K5 (1,0) _ (by unfold Bj; rw [u] <;> rfl)
 refine AB wv v [(0,0)] fun z t=>?_
 refine AP t (args:=[ψ [τ h ns.length p,τ g ss.length o,τ f l.length m],ψ ((Γ x a b))]) (P7 k i j _ x 32 _ _ z (Nat.le_refl _) (by simpa [DV] using ‹(!(DV x))=false›) (s.below t.B) (q.below t.B) (r.below t.B) (d.below t.B)) fun w7 K7=>?_
 refine Am AEv K7 [(1,0)] fun w8 K8=>?_
 exact AO K8 (1,0) _ (by unfold Bj; rw [u] <;> rfl)
def EZ (d:Df) (b:Df):Bool:=cond (!(decide (d.name=b.name))) (false) (cond (cond (d.kind == 5) (true) (b.kind == 5)) (d.kind == b.kind) (cond (cond (cond (!(d.kind == b.kind)) (true) (d.kind == 1)) (true) (!((((Ai d.kind d.tb d.tm d.th d.td).1) == ((Ai b.kind b.tb b.tm b.th b.td).1)) && (((Ai d.kind d.tb d.tm d.th d.td).2.1 == (Ai b.kind b.tb b.tm b.th b.td).2.1) && (((Ai d.kind d.tb d.tm d.th d.td).2.2.1 == (Ai b.kind b.tb b.tm b.th b.td).2.2.1) && ((Ai d.kind d.tb d.tm d.th d.td).2.2.2 == (Ai b.kind b.tb b.tm b.th b.td).2.2.2)))))) (true) (d.frm == b.frm)))
noncomputable def nT:Code:=Tryz.f49.body.getD .skip
def AAY:=Al 1 ([.code nT])
def pI:=AI AAY
def AFt:=Ξ pI
def AAX:=Al 3 (AF pI)
def pH:=AI AAX
def AFs:=Ξ pH
def AAW:=Al 5 (AF pH)
def AFr:=AI AAW
theorem Yk (d:Df) (i:Option Addr) (o:Nat) (h:Option Addr) (m:Nat) (b:Df) (g:Option Addr) (l:Nat) (f:Option Addr) (j:Nat) (w:World) (b0:Cs w i d.ents) (a0:rowsEx w h d.body.ks) (d0:Cs w g b.ents) (c0:rowsEx w f b.body.ks):Calls Tryz.prog 49 ([ψ ((ω d i o h m)),ψ ((ω b g l f j))]:List Value).toArray w fun e w'=>e=.returned (ξ (EZ d b))∧Below (ε w) w w':=by
 refine AS (fn:=Tryz.f49) (c:=nT) (n:=47) ?_
 have K1:=Wk.start w
 refine CC 1 AAY [ι (ε w) ((Bg d i o h m)) 59,ι (ε w + 1) ((Bg b g l f j)) 59] K1 [] fun w1 K2=>?_
 refine Av K2 [(1,0,1),(3,1,1)] [⟨4,[(6,η (d.name)),(8,η (b.name))],ξ (!(decide (d.name=b.name))),true⟩] K2.G (fun z p=>?_) fun w2 E2 K3=>?_
 ·rw [List.mem_singleton.1 p]
  exact BQ fun _ E u _=>Nx (T:=9) (T':=9) (x:=.tmp 6) (y:=.tmp 8) (by kernel_rfl) (by kernel_rfl) (by kernel_rfl)
 refine AB pI K3 [] fun w3 K4=>?_
 refine AG (!(decide (d.name=b.name))) (fun r=>?_) (fun r=>?_)
 ·refine AB AFt K4 [] fun w5 K5=>?_
  exact AO K5 (0,0) _ (by unfold EZ; rw [r] <;> rfl)
 refine As 3 AAX K4 [] fun w6 K6=>?_
 refine Av K6 [(1,0,0),(5,1,0)] [] K6.G (fun z p=>by cases p) fun w7 E7 K7=>?_
 refine AB pH K7 [] fun w8 K8=>?_
 refine AG (cond (d.kind == 5) (true) (b.kind == 5)) (fun s=>?_) (fun s=>?_)
 ·refine AB AFs K8 [(0,0),(1,0)] fun i0 K9=>?_
  exact AO K9 (0,0) _ (by unfold EZ; rw [r,s] <;> rfl)
 refine As 5 AAW K8 [] fun h0 q=>?_
 refine Av q [(1,0,0),(3,1,0),(7,0,0),(11,0,0),(13,1,0),(19,0,6),(21,1,6)] [⟨12,[(34,ψ ((ω d i o h m)))],EQ (Ai d.kind d.tb d.tm d.th d.td),(!(cond (!(d.kind == b.kind)) (true) (d.kind == 1))) && (true)⟩,⟨14,[(36,ψ ((ω b g l f j)))],EQ (Ai b.kind b.tb b.tm b.th b.td),(!(cond (!(d.kind == b.kind)) (true) (d.kind == 1))) && (true)⟩,⟨15,[(35,EQ (Ai d.kind d.tb d.tm d.th d.td)),(37,EQ (Ai b.kind b.tb b.tm b.th b.td))],ξ (!((((Ai d.kind d.tb d.tm d.th d.td).1) == ((Ai b.kind b.tb b.tm b.th b.td).1)) && (((Ai d.kind d.tb d.tm d.th d.td).2.1 == (Ai b.kind b.tb b.tm b.th b.td).2.1) && (((Ai d.kind d.tb d.tm d.th d.td).2.2.1 == (Ai b.kind b.tb b.tm b.th b.td).2.2.1) && ((Ai d.kind d.tb d.tm d.th d.td).2.2.2 == (Ai b.kind b.tb b.tm b.th b.td).2.2.2))))),(!(cond (!(d.kind == b.kind)) (true) (d.kind == 1))) && (true)⟩] q.G (fun z p=>?_) fun g0 j0 v=>?_
 ·simp only [List.mem_cons,List.not_mem_nil,or_false] at p
  rcases p with rfl | rfl | rfl
  ·exact AY 73 [.tmp 34] _ (fun _=>by kernel_rfl) fun hc u hu=>AQ hu (JP d.kind d.name d.tb d.tm d.th d.td d.frm i d.ents.length o d.body.op d.body.num d.body.den d.body.mu d.body.hu d.body.du d.body.nm d.body.cnt d.body.md h d.body.ks.length m d.mode d.num d.den u)
  ·exact AY 73 [.tmp 36] _ (fun _=>by kernel_rfl) fun hc u hu=>AQ hu (JP b.kind b.name b.tb b.tm b.th b.td b.frm g b.ents.length l b.body.op b.body.num b.body.den b.body.mu b.body.hu b.body.du b.body.nm b.body.cnt b.body.md f b.body.ks.length j b.mode b.num b.den u)
  exact BQ fun _ E u _=>DD (k:=.neq) (T:=56) (a:=EQ (Ai d.kind d.tb d.tm d.th d.td)) (b:=EQ (Ai b.kind b.tb b.tm b.th b.td)) (Rz u ((Ai d.kind d.tb d.tm d.th d.td).1) ((Ai d.kind d.tb d.tm d.th d.td).2.1) ((Ai d.kind d.tb d.tm d.th d.td).2.2.1) ((Ai d.kind d.tb d.tm d.th d.td).2.2.2) ((Ai b.kind b.tb b.tm b.th b.td).1) ((Ai b.kind b.tb b.tm b.th b.td).2.1) ((Ai b.kind b.tb b.tm b.th b.td).2.2.1) ((Ai b.kind b.tb b.tm b.th b.td).2.2.2))
 refine AB AFr v [] fun e0 t=>?_
 exact AO t (0,0) _ (by unfold EZ; rw [r,s] <;> rfl)
def Ac (d:Df):Bool:=cond (d.kind == 3) (true) (d.kind == 4)
noncomputable def np:Code:=Tryz.f57.body.getD .skip
def AAz:=Al 1 ([.code np])
def AF9:=AI AAz
theorem Gx (d:Df) (b:Option Addr) (g:Nat) (a:Option Addr) (f:Nat) (w:World) (j:Cs w b d.ents) (i:rowsEx w a d.body.ks):Calls Tryz.prog 57 ([ψ ((ω d b g a f))]:List Value).toArray w fun e w'=>e=.returned (ξ (Ac d))∧Below (ε w) w w':=by
 refine AS (fn:=Tryz.f57) (c:=np) (n:=11) ?_
 have o:=Wk.start w
 refine CC 1 AAz [ι (ε w) ((Bg d b g a f)) 59] o [] fun r k=>?_
 refine Av k [(1,0,0),(5,0,0)] [] k.G (fun s h=>by cases h) fun q t m=>?_
 refine AB AF9 m [] fun p l=>?_
 exact AO l (0,0) _ (by unfold Ac; rfl)
def BG (ds:List (Df)) (p1:Int) (i:Nat):List (Df)→Nat→Bool→Bool
 | [],i0,a0_0=>false
 | e0 :: tl,i0,a0_0=>cond (cond (cond (!(e0.kind == (ds.getD i default).kind)) (true) (!(decide (e0.name=(ds.getD i default).name)))) (true) (decide (p1 < e0.frm))) (BG ds p1 i tl (i0 + 1) a0_0) (cond (cond (decide ((ds.getD i default).frm < e0.frm)) (true) (cond (e0.frm == (ds.getD i default).frm) (decide ((i0:Int) < (i:Int))) (false))) (true) (BG ds p1 i tl (i0 + 1) a0_0))
theorem PN {ds:List (Df)} {p1:Int} {i:Nat} {b:Nat} {a:Bool}:BG ds p1 i [] b a=(false):=by rw [BG]
theorem Ok {ds:List (Df)} {p1:Int} {i:Nat} {a:Bool} {es:List (Df)} (b:Nat) (c:Df) (hi:es[b]?=some c):BG ds p1 i (es.drop b) b a=(cond (cond (cond (!(c.kind == (κ ds i).kind)) (true) (!(decide (c.name=(κ ds i).name)))) (true) (decide (p1 < c.frm))) (BG ds p1 i (es.drop (b + 1)) (b + 1) a) (cond (cond (decide ((κ ds i).frm < c.frm)) (true) (cond (c.frm == (κ ds i).frm) (decide ((b:Int) < (i:Int))) (false))) (true) (BG ds p1 i (es.drop (b + 1)) (b + 1) a))):=by
 have hl:b < es.length:=(List.getElem?_eq_some_iff.1 hi).1
 have he:es[b]=c:=(List.getElem?_eq_some_iff.1 hi).2
 rw [← List.getElem_cons_drop hl,BG] <;> (try rw [he])
def Cr (ds:List (Df)) (p1:Int) (i:Nat):Bool:=BG ds p1 i ds 0 false
noncomputable def Xy:Code:=Tryz.f81.body.getD .skip
def AAo:=AA (An Ae 90 ([.code Xy])) ([.code Xy])
def fE:=ν (AC (AC AAo))
def fD:=ν (Ar fE)
def AAn:=AA (An Ae 90 (AD fD)) (AD fD)
def AAm:=Al 5 (AC (AC AAn))
def AAl:=AI AAm
def AAk:=Al 6 (AF AAl)
def AAj:=AI AAk
def AF3:=Ξ AAj
def AF2:=Ψ fD
theorem Wq (b1:List UInt8) (z:Option Addr) (ds:List (Df)) (b:Nat) (p1:Int) (i:Nat) (w:World) (t0:rowsDf w z ds) (c1:ds.length≤4294967296) (a0:i < ds.length):Calls Tryz.prog 81 ([ψ [η b1,τ z ds.length b],δ p1,δ ((i:Int))]:List Value).toArray w fun e w'=>e=.returned (ξ (Cr ds p1 i))∧Below (ε w) w w':=by
 refine AS (fn:=Tryz.f81) (c:=Xy) (n:=59) ?_
 have K1:=Wk.start w
 obtain ⟨p,q,rfl,b0,c0⟩:=t0.all (by omega)
 have d1:ds[i]?=some (κ ds i):=getD_some default a0
 obtain ⟨j,f,h,d,q0,h1,g1⟩:=c0 i _ d1
 refine aO Ae AAo K1 [(0,1)] fun t K2=>?_
 refine Ay (g:=p) (off:=q) (cap:=b) (sz:=21) (k:=i) (len:=ds.length) (some 13) a0 Tryz.underlying25 ?_
 refine BN 59 p (q + i * 21) _ (some 14) (Ag q0 b0 K2.B) ?_
 refine Am fE K2 [(1,0),(0,1)] fun w2 K3=>?_
 have K4:Wk w w2 [ι (ε t) ((Bg (κ ds i) j f h d)) 59] [] []:=K3.pk [1] []
 have m:(Cr ds p1 i)=BG ds p1 i ds 0 false:=by unfold Cr; rfl
 refine AU [(1,δ p1),(2,δ ((i:Int))),(6,ξ false),(7,ζ (ε t)),(16,τ (some ⟨p,q,none⟩) ds.length b),(17,δ ((ds.length:Int))),(18,δ (((0:Nat):Int)))] fun E3=>?_
 refine Bo (by kernel_rfl) (fun E m0=>∃ (a:Nat) (l:Bool) (E0:Nat→Value),a≤ds.length∧E=BE E0 [(1,δ p1),(2,δ ((i:Int))),(6,ξ l),(7,ζ (ε t)),(16,τ (some ⟨p,q,none⟩) ds.length b),(17,δ ((ds.length:Int))),(18,δ ((a:Int)))]∧(Cr ds p1 i)=BG ds p1 i (List.drop a ds) a l∧Wk w m0 [ι (ε t) ((Bg (κ ds i) j f h d)) 59] [] []) (fun E _=>ds.length - AL (E 18)) ⟨0,false,E3,Nat.zero_le _,rfl,m,K4⟩ ?_
 clear m
 rintro E m0 ⟨a,l,E0,b2,rfl,m,K5⟩ o
 refine AB fD K5 [] fun w5 K6=>?_
 refine AG (decide ((a:Int) < (ds.length:Int))) (fun c6=>?_) (fun c6=>?_)
 ·have r:a < ds.length:=by have:=of_decide_eq_true c6; omega
  obtain ⟨s,s0⟩:∃ e,ds[a]?=some e:=⟨_,List.getElem?_eq_getElem r⟩
  rw [Ok a s s0] at m
  obtain ⟨l0,h0,k0,g0,p0,f1,e1⟩:=c0 a _ s0
  refine Ak Ae AAn K6 [] fun w7 K7=>?_
  refine Ay (g:=p) (off:=q) (cap:=b) (sz:=21) (k:=a) (len:=ds.length) (some 21) r Tryz.underlying25 ?_
  refine BN 59 p (q + a * 21) _ (some 22) (Ag p0 b0 K7.B) ?_
  refine CC 5 AAm [ι (ε t) ((Bg (κ ds i) j f h d)) 59,ι (ε w7) ((Bg s l0 h0 k0 g0)) 59] K7 [(1,0)] fun w8 K8=>?_
  refine Av K8 [(1,1,0),(3,0,0),(7,1,1),(9,0,1),(14,1,6)] [⟨10,[(30,η (s.name)),(32,η ((κ ds i).name))],ξ (!(decide (s.name=(κ ds i).name))),(!(!(s.kind == (κ ds i).kind))) && (true)⟩] K8.G (fun sp d0=>?_) fun w9 E9 K9=>?_
  ·rw [List.mem_singleton.1 d0]
   exact BQ fun _ E u _=>Nx (T:=9) (T':=9) (x:=.tmp 30) (y:=.tmp 32) (by kernel_rfl) (by kernel_rfl) (by kernel_rfl)
  refine AB AAl K9 [] fun a2 x0=>?_
  refine AG (cond (cond (!(s.kind == (κ ds i).kind)) (true) (!(decide (s.name=(κ ds i).name)))) (true) (decide (p1 < s.frm))) (fun v=>?_) (fun v=>?_)
  ·refine AB (AZ fE) x0 [] fun a1 q1=>?_
   refine AU [(1,δ p1),(2,δ ((i:Int))),(6,ξ l),(7,ζ (ε t)),(16,τ (some ⟨p,q,none⟩) ds.length b),(17,δ ((ds.length:Int))),(18,δ (IntKind.i64.wrap ((a:Int) + 1)))] fun s1=>?_
   have o1:Wk w a1 [ι (ε t) ((Bg (κ ds i) j f h d)) 59] [] []:=q1.pk [0] []
   rw [Bl a (by omega)]
   refine o _ _ ⟨a + 1,l,s1,r,rfl,by rw [m,v] <;> rfl,o1⟩ ?_
   show ds.length - AL (δ ((a + 1:Nat):Int)) < ds.length - AL (δ (a:Int))
   simp only [AL]
   omega
  refine As 6 AAk x0 [] fun z1 w0=>?_
  refine Av w0 [(1,1,6),(3,0,6),(7,1,6),(9,0,6)] [] w0.G (fun sp d0=>by cases d0) fun x1 c2 n1=>?_
  refine AB AAj n1 [] fun v1 v0=>?_
  refine AG (cond (decide ((κ ds i).frm < s.frm)) (true) (cond (s.frm == (κ ds i).frm) (decide ((a:Int) < (i:Int))) (false))) (fun j0=>?_) (fun j0=>?_)
  ·refine AB AF3 v0 [] fun u1 m1=>?_
   exact AO m1 (0,0) _ (by rw [m,v,j0] <;> rfl)
  refine AB (AZ fE) v0 [] fun z0 l1=>?_
  refine AU [(1,δ p1),(2,δ ((i:Int))),(6,ξ l),(7,ζ (ε t)),(16,τ (some ⟨p,q,none⟩) ds.length b),(17,δ ((ds.length:Int))),(18,δ (IntKind.i64.wrap ((a:Int) + 1)))] fun r1=>?_
  have k1:Wk w z0 [ι (ε t) ((Bg (κ ds i) j f h d)) 59] [] []:=l1.pk [0] []
  rw [Bl a (by omega)]
  refine o _ _ ⟨a + 1,l,r1,r,rfl,by rw [m,v,j0] <;> rfl,k1⟩ ?_
  show ds.length - AL (δ ((a + 1:Nat):Int)) < ds.length - AL (δ (a:Int))
  simp only [AL]
  omega
 have r0:a=ds.length:=by have:=of_decide_eq_false c6; omega
 rw [r0,List.drop_length,PN] at m
 refine AB AF2 K6 [] fun t1 i1=>?_
 exact AO i1 (0,0) _ (by rw [m] <;> rfl)
theorem rowsDf.agr {w:World} {A:Option Addr} {c:Nat} {nm:List UInt8} {ds:List Df} (h:rowsDf w A ds):YC w nm ds [η nm,τ A ds.length c]:=
 let ⟨rs,h1,h2⟩:=h
 ⟨A,c,rs,rfl,h1,h2⟩
def C7 (p0a:List UInt8) (ds:List (Df)) (p1:Int):Int:=cond (!(EK p0a ds)) (1) (cond (cond (decide (p1 < 0)) (true) (decide (84005 < p1))) (2) (0))
noncomputable def nl:Code:=Tryz.f54.body.getD .skip
def AAy:=ν ([.code nl])
def pU:=Ω AAy
def AF8:=Ξ pU
def AAx:=Al 3 (AF pU)
def pT:=AI AAx
def AF7:=Ξ pT
def AF6:=Ψ pT
theorem M1 (a:List UInt8) (b:Option Addr) (ds:List (Df)) (f:Nat) (p1:Int) (w:World) (h:rowsDf w b ds) (g:ds.length≤4294967296) (hs:a.length≤4294967296) (ht:∀ d∈ds,Fc d):Calls Tryz.prog 54 ([ψ [η a,τ b ds.length f],δ p1]:List Value).toArray w fun e w'=>e=.returned (δ (C7 a ds p1))∧Below (ε w) w w':=by
 refine AS (fn:=Tryz.f54) (c:=nl) (n:=14) ?_
 have z:=Wk.start w
 refine Ah AAy [ι (ε w) [η a,τ b ds.length f] 27] z [(0,0)] fun t q=>?_
 refine AP q (args:=[ψ [η a,τ b ds.length f]]) (P6 a ds _ t hs g ht (h.below q.B).agr) fun w2 y=>?_
 refine AB pU y [] fun w3 p=>?_
 refine AG (!(EK a ds)) (fun i=>?_) (fun i=>?_)
 ·refine AB AF8 p [] fun w5 x=>?_
  exact AO x (0,0) _ (by unfold C7; rw [i] <;> rfl)
 refine As 3 AAx p [] fun w6 o=>?_
 refine Av o [] [] o.G (fun sp j=>by cases j) fun w7 E7 v=>?_
 refine AB pT v [] fun w8 m=>?_
 refine AG (cond (decide (p1 < 0)) (true) (decide (84005 < p1))) (fun k=>?_) (fun k=>?_)
 ·refine AB AF7 m [] fun s u=>?_
  exact AO u (0,0) _ (by unfold C7; rw [i,k] <;> rfl)
 refine AB AF6 m [] fun r l=>?_
 exact AO l (0,0) _ (by unfold C7; rw [i,k] <;> rfl)
def Cz (d:Df) (ns:List (Df)) (ss:List (Df)) (ps:List (Df)):Int:=cond (!((Bj d.body ns ss ps).2.2.2.2 == 0)) ((Bj d.body ns ss ps).2.2.2.2) (Gc ((Bj d.body ns ss ps).1) ((Bj d.body ns ss ps).2.1) ((Bj d.body ns ss ps).2.2.1) ((Bj d.body ns ss ps).2.2.2.1) ((Ai d.kind d.tb d.tm d.th d.td).1) ((Ai d.kind d.tb d.tm d.th d.td).2.1) ((Ai d.kind d.tb d.tm d.th d.td).2.2.1) ((Ai d.kind d.tb d.tm d.th d.td).2.2.2))
noncomputable def nU:Code:=Tryz.f51.body.getD .skip
def AAa:=ν ([.code nU])
def pJ:=Ω AAa
def AFv:=Ξ pJ
def AAZ:=Al 4 (AF pJ)
def AFu:=AI AAZ
theorem TX (d:Df) (g:Option Addr) (h:Nat) (b:Option Addr) (f:Nat) (k:Option Addr) (ns:List (Df)) (o:Nat) (j:Option Addr) (ss:List (Df)) (m:Nat) (i:Option Addr) (a:List (Df)) (l:Nat) (w:World) (a0:Cs w g d.ents) (t:rowsEx w b d.body.ks) (s:rowsDf w k ns) (z:ns.length≤4294967296) (q:rowsDf w j ss) (x:ss.length≤4294967296) (r:rowsDf w i a) (y:a.length≤4294967296) (ht:Dm d.body):Calls Tryz.prog 51 ([ψ ((ω d g h b f)),τ k ns.length o,τ j ss.length m,τ i a.length l]:List Value).toArray w fun e w'=>e=.returned (δ (Cz d ns ss a))∧Below (ε w) w w':=by
 refine AS (fn:=Tryz.f51) (c:=nU) (n:=27) ?_
 have K1:=Wk.start w
 refine Am AAa K1 [(0,8)] fun w1 v=>?_
 refine AP v (US d.body b f k ns o j ss m i a l w1 (t.below v.B) (s.below v.B) (by first | assumption | omega | (simp <;> omega)) (q.below v.B) (by first | assumption | omega | (simp <;> omega)) (r.below v.B) (by first | assumption | omega | (simp <;> omega)) ht) fun w2 K3=>?_
 refine Ah pJ [ι (ε w) ((Bg d g h b f)) 59,ι (ε w2) [ξ ((Bj d.body ns ss a).1),δ ((Bj d.body ns ss a).2.1),δ ((Bj d.body ns ss a).2.2.1),δ ((Bj d.body ns ss a).2.2.2.1)] 56] K3 [(1,0)] fun w3 K4=>?_
 refine AG (!((Bj d.body ns ss a).2.2.2.2 == 0)) (fun c4=>?_) (fun c4=>?_)
 ·refine AB AFv K4 [] fun w5 K5=>?_
  exact AO K5 (0,0) _ (by unfold Cz; rw [c4] <;> rfl)
 refine As 4 AAZ K4 [] fun w6 K6=>?_
 refine Av K6 [(0,1,0),(1,0,0)] [⟨2,[(24,ψ ((ω d g h b f)))],EQ (Ai d.kind d.tb d.tm d.th d.td),true⟩,⟨3,[(23,ψ [ξ ((Bj d.body ns ss a).1),δ ((Bj d.body ns ss a).2.1),δ ((Bj d.body ns ss a).2.2.1),δ ((Bj d.body ns ss a).2.2.2.1)]),(25,EQ (Ai d.kind d.tb d.tm d.th d.td))],δ (Gc ((Bj d.body ns ss a).1) ((Bj d.body ns ss a).2.1) ((Bj d.body ns ss a).2.2.1) ((Bj d.body ns ss a).2.2.2.1) ((Ai d.kind d.tb d.tm d.th d.td).1) ((Ai d.kind d.tb d.tm d.th d.td).2.1) ((Ai d.kind d.tb d.tm d.th d.td).2.2.1) ((Ai d.kind d.tb d.tm d.th d.td).2.2.2)),true⟩] K6.G (fun sp p=>?_) fun w7 E7 K7=>?_
 ·simp only [List.mem_cons,List.not_mem_nil,or_false] at p
  rcases p with rfl | rfl
  ·exact AY 73 [.tmp 24] _ (fun _=>by kernel_rfl) fun hc u hu=>AQ hu (JP d.kind d.name d.tb d.tm d.th d.td d.frm g d.ents.length h d.body.op d.body.num d.body.den d.body.mu d.body.hu d.body.du d.body.nm d.body.cnt d.body.md b d.body.ks.length f d.mode d.num d.den u)
  exact AY 75 [.tmp 23,.tmp 25] _ (fun _=>by kernel_rfl) fun hc u hu=>AQ hu (TE ((Bj d.body ns ss a).1) ((Bj d.body ns ss a).2.1) ((Bj d.body ns ss a).2.2.1) ((Bj d.body ns ss a).2.2.2.1) ((Ai d.kind d.tb d.tm d.th d.td).1) ((Ai d.kind d.tb d.tm d.th d.td).2.1) ((Ai d.kind d.tb d.tm d.th d.td).2.2.1) ((Ai d.kind d.tb d.tm d.th d.td).2.2.2) u)
 refine AB AFu K7 [] fun w8 K8=>?_
 exact AO K8 (0,0) _ (by unfold Cz; rw [c4] <;> rfl)
def Co (F:Df→Bool):List (Df)→Nat→Int→Int
 | [],i0,a0_0=>-1
 | e0 :: tl,i0,a0_0=>cond (F e0) ((i0:Int)) (Co F tl (i0 + 1) a0_0)
theorem RN {F:Df→Bool} {b:Nat} {a:Int}:Co F [] b a=(-1):=by rw [Co]
theorem Pl {F:Df→Bool} {b:Int} {es:List (Df)} (a:Nat) (c:Df) (hi:es[a]?=some c):Co F (es.drop a) a b=(cond (F c) ((a:Int)) (Co F (es.drop (a + 1)) (a + 1) b)):=by
 have hl:a < es.length:=(List.getElem?_eq_some_iff.1 hi).1
 have he:es[a]=c:=(List.getElem?_eq_some_iff.1 hi).2
 rw [← List.getElem_cons_drop hl,Co] <;> (try rw [he])
def AJ (F:Df→Bool) (ds:List (Df)):Int:=Co F ds 0 0
noncomputable def mo:Code:=Tryz.f72.body.getD .skip
def oN:=ν ([.code mo])
def ag:=ν (Ar oN)
def xE:=AA (An Ae 90 (AD ag)) (AD ag)
def xD:=ν (AC (AC xE))
def xC:=Ω xD
def AEz:=Ξ xC
def AEy:=Ψ ag
theorem O6 (F:Df→Bool) (j:Option Addr) (ds:List (Df)) (f:Nat) (g:FuncId) (cap:List Value) (w:World) (b0:rowsDf w j ds) (h0:ds.length≤4294967296) (hg:DX Tryz.prog g=true) (hF:∀ u,Below (ε w) w u→∀ (e:Df) (A1:Option Addr) (c1:Nat) (A2:Option Addr) (c2:Nat),Cs u A1 e.ents→rowsEx u A2 e.body.ks→Calls Tryz.prog g (ψ (Bg e A1 c1 A2 c2) :: cap).toArray u fun en w'=>en=.returned (ξ (F e))∧Below (ε u) u w'):Calls Tryz.prog 72 ([τ j ds.length f,.func (.func g) #[] ⟨cap⟩]:List Value).toArray w fun e w'=>e=.returned (δ (AJ F ds))∧Below (ε w) w w':=by
 refine AS (fn:=Tryz.f72) (c:=mo) (n:=19) ?_
 have K1:=Wk.start w
 refine AB oN K1 [] fun w1 K2=>?_
 have K3:Wk w w1 [] [] []:=K2.pk [] []
 have b:(AJ F ds)=Co F ds 0 0:=by unfold AJ; rfl
 refine AU [(0,τ j ds.length f),(1,.func (.func g) #[] ⟨cap⟩),(4,δ 0),(7,δ ((ds.length:Int))),(8,δ (((0:Nat):Int)))] fun E2=>?_
 refine Bo (by kernel_rfl) (fun E x=>∃ (a:Nat) (d:Int) (E0:Nat→Value),a≤ds.length∧E=BE E0 [(0,τ j ds.length f),(1,.func (.func g) #[] ⟨cap⟩),(4,δ d),(7,δ ((ds.length:Int))),(8,δ ((a:Int)))]∧(AJ F ds)=Co F (List.drop a ds) a d∧Wk w x [] [] []) (fun E _=>ds.length - AL (E 8)) ⟨0,0,E2,Nat.zero_le _,rfl,b,K3⟩ ?_
 clear b
 rintro E x ⟨a,d,E0,s0,rfl,b,K4⟩ i
 refine AB ag K4 [] fun w4 K5=>?_
 refine AG (decide ((a:Int) < (ds.length:Int))) (fun c5=>?_) (fun c5=>?_)
 ·have h:a < ds.length:=by have:=of_decide_eq_true c5; omega
  obtain ⟨e0,a0⟩:∃ e,ds[a]?=some e:=⟨_,List.getElem?_eq_getElem h⟩
  rw [Pl a e0 a0] at b
  obtain ⟨o,p,rfl,c0,d0⟩:=b0.all (by omega)
  obtain ⟨v,r,t,q,y,m,l⟩:=d0 a _ a0
  refine Ak Ae xE K5 [] fun w6 K6=>?_
  refine Ay (g:=o) (off:=p) (cap:=f) (sz:=21) (k:=a) (len:=ds.length) (some 14) h Tryz.underlying25 ?_
  refine BN 59 o (p + a * 21) _ (some 15) (Ag y c0 K6.B) ?_
  refine AB xD K6 [] fun w7 K7=>?_
  refine N6 g (ψ ((ω e0 v r t q)) :: cap) (hg:=hg) (hF w7 K7.B _ _ _ _ _ (m.below K7.B) (l.below K7.B)) fun en w8 hh=>?_
  obtain ⟨rfl,b8⟩:=hh
  refine ⟨_,rfl,?_⟩
  have K8:=K7.below b8
  refine AB xC K8 [] fun w9 K9=>?_
  refine AG (F e0) (fun s=>?_) (fun s=>?_)
  ·refine AB AEz K9 [] fun r0 m0=>?_
   exact AO m0 (0,0) _ (by rw [b,s] <;> rfl)
  refine AB (AZ oN) K9 [] fun g0 l0=>?_
  refine AU [(0,τ (some ⟨o,p,none⟩) ds.length f),(1,.func (.func g) #[] ⟨cap⟩),(4,δ d),(7,δ ((ds.length:Int))),(8,δ (IntKind.i64.wrap ((a:Int) + 1)))] fun p0=>?_
  have k0:Wk w g0 [] [] []:=l0.pk [] []
  rw [Bl a (by omega)]
  refine i _ _ ⟨a + 1,d,p0,h,rfl,by rw [b,s] <;> rfl,k0⟩ ?_
  show ds.length - AL (δ ((a + 1:Nat):Int)) < ds.length - AL (δ (a:Int))
  simp only [AL]
  omega
 have z:a=ds.length:=by have:=of_decide_eq_false c5; omega
 rw [z,List.drop_length,RN] at b
 refine AB AEy K5 [] fun q0 j0=>?_
 exact AO j0 (0,0) _ (by rw [b] <;> rfl)
def DL (F:Df→Bool) (ds:List (Df)):Bool:=decide (0≤AJ F ds)
noncomputable def ZP:Code:=Tryz.f47.body.getD .skip
def qg:=ν ([.code ZP])
def AB3:=Ω qg
theorem SI (F:Df→Bool) (a:Option Addr) (ds:List (Df)) (d:Nat) (g:FuncId) (cap:List Value) (w:World) (f:rowsDf w a ds) (b:ds.length≤4294967296) (hg:DX Tryz.prog g=true) (m:∀ u,Below (ε w) w u→∀ (e:Df) (j:Option Addr) (q:Nat) (i:Option Addr) (p:Nat),Cs u j e.ents→rowsEx u i e.body.ks→Calls Tryz.prog g (ψ (Bg e j q i p) :: cap).toArray u fun o w'=>o=.returned (ξ (F e))∧Below (ε u) u w'):Calls Tryz.prog 47 ([τ a ds.length d,.func (.func g) #[] ⟨cap⟩]:List Value).toArray w fun e w'=>e=.returned (ξ (DL F ds))∧Below (ε w) w w':=by
 refine AS (fn:=Tryz.f47) (c:=ZP) (n:=9) ?_
 have v:=Wk.start w
 refine AB qg v [] fun k h=>?_
 refine AP h (args:=[τ a ds.length d,.func (.func g) #[] ⟨cap⟩]) (O6 F _ ds _ g cap k (f.below h.B) b hg (fun l r=>m l (h.B.trans (r.mono h.B.size)))) fun y t=>?_
 refine AB AB3 t [] fun x s=>?_
 exact AO s (0,0) _ (by unfold DL; rfl)
def vN (T:TypeId) (x:Nat):Op→Bool
 | .load t (.tmp y)=>t == T && y == x
 | _=>false
def Eb (x:Df) (d:Df):Bool:=EZ x d
noncomputable def Xw:Code:=Tryz.f48.body.getD .skip
def AAS:=AA (An (vN 59 1) 90 ([.code Xw])) ([.code Xw])
def AAR:=ν (AC (AAS))
def AFn:=Ω AAR
theorem Yp (x:Df) (g:Option Addr) (j:Nat) (f:Option Addr) (i b:Nat) (d:Df) (l:Option Addr) (s:Nat) (k:Option Addr) (r:Nat) (w:World) (o:Cs w g x.ents) (m:rowsEx w f x.body.ks) (h:b < (ε w)) (a:w.rangeAt b 0 (ω d l s k r)) (q:Cs w l d.ents) (p:rowsEx w k d.body.ks):Calls Tryz.prog 48 ([ψ ((ω x g j f i)),ζ b]:List Value).toArray w fun e w'=>e=.returned (ξ (Eb x d))∧Below (ε w) w w':=by
 refine AS (fn:=Tryz.f48) (c:=Xw) (n:=7) ?_
 have z:=h
 have u:=a
 have K1:=Wk.start w
 refine aO (vN 59 1) AAS K1 [(0,0)] fun w1 v=>?_
 refine BN 59 b 0 _ (some 5) (Ag a h v.B) ?_
 refine AB AAR v [] fun y t=>?_
 refine AP t (Yk x g j f i d l s k r y (o.below t.B) (m.below t.B) (q.below t.B) (p.below t.B)) fun w3 K4=>?_
 refine AB AFn K4 [] fun w4 K5=>?_
 exact AO K5 (0,0) _ (by unfold Eb; rfl)
def AE (x:Df) (d:Df):Bool:=decide (x.name=d.name)
noncomputable def nR:Code:=Tryz.f74.body.getD .skip
def AAQ:=Al 1 ([.code nR])
def AFm:=AI AAQ
theorem Rf (x:Df) (f:Option Addr) (i:Nat) (a:Option Addr) (h b:Nat) (d:Df) (m:Option Addr) (q:Nat) (l:Option Addr) (p:Nat) (w:World) (v:Cs w f x.ents) (t:rowsEx w a x.body.ks) (k:b < (ε w)) (g:w.rangeAt b 0 (ω d m q l p)) (a0:Cs w m d.ents) (z:rowsEx w l d.body.ks):Calls Tryz.prog 74 ([ψ ((ω x f i a h)),ζ b]:List Value).toArray w fun e w'=>e=.returned (ξ (AE x d))∧Below (ε w) w w':=by
 refine AS (fn:=Tryz.f74) (c:=nR) (n:=9) ?_
 have o:=k
 have j:=g
 have K1:=Wk.start w
 refine CC 1 AAQ [ι (ε w) ((Bg x f i a h)) 59] K1 [] fun w1 r=>?_
 refine Av r [(1,0,1),(3,1,1)] [⟨4,[(5,η (x.name)),(7,η (d.name))],ξ (decide (x.name=d.name)),true⟩] (Mn (x:=⟨b,0 + 0 * 0,ω d m q l p,59,false⟩) r.G ⟨Nat.lt_of_lt_of_le o r.B.size,Ag j o r.B⟩) (fun sp s=>?_) fun w2 E2 K3=>?_
 ·rw [List.mem_singleton.1 s]
  exact BQ fun _ E u _=>Hl (T:=9) (T':=9) (x:=.tmp 5) (y:=.tmp 7)
 refine AB AFm K3 [] fun w3 K4=>?_
 exact AO K4 (0,0) _ (by unfold AE; rfl)
end
end Go.Proofs.YtkjbdagicjbjjaaGreat

/- Contracts of functions, part 26. -/
import Derived.Test.YtkjbdagicjbjjaaGreatTs23
import Derived.Test.YtkjbdagicjbjjaaGreatTs25
import Derived.DeepKeys4
set_option linter.all false
namespace Go.Proofs.YtkjbdagicjbjjaaGreat
noncomputable section
open Go.RowKit
set_option maxRecDepth 100000
set_option maxHeartbeats 1000000
attribute [local irreducible] BD BP AC AD AF Ar AZ AM Aw Bk C6 BV BO At Fr
abbrev Δ (d:Df) (ns:List Df):Int:=AJ (fun x=>AE x d) ns
abbrev Θ (d:Df) (ns:List Df):Df:=ns.getD (Δ d ns).toNat default
theorem L0 {F:Df→Bool}:∀ (es:List Df) (i:Nat) (a:Int),Co F es i a < (i + es.length:Nat)∧(Co F es i a=-1∨0≤Co F es i a)
 | [],i,a=>by rw [Co]; exact ⟨by omega,.inl rfl⟩
 | e :: es,i,a=>by
  rw [Co,List.length_cons]
  cases F e
  ·show Co F es (i + 1) a < _∧_
   have:=L0 (F:=F) es (i + 1) a
   exact ⟨by have:=this.1; omega,this.2⟩
  exact ⟨by show (i:Int) < _; omega,.inr (by show (0:Int)≤i; omega)⟩
theorem Yd {F:Df→Bool} {ds:List Df} (h:decide (AJ F ds < 0)=false):AJ F ds=((AJ F ds).toNat:Int)∧(AJ F ds).toNat < ds.length:=by
 have b:=of_decide_eq_false h
 have h2:=(L0 (F:=F) ds 0 0).1
 have a:AJ F ds < (0 + ds.length:Nat):=h2
 omega
theorem RX (F:Df→Bool) (a:Option Addr) (ds:List (Df)) {m:Nat} (c:Nat) (g:FuncId) (cap:List Value) (w:World) (d:rowsDf w a ds) (hm:ds.length=m) (b:ds.length≤4294967296) (hg:DX Tryz.prog g=true) (i:∀ u,Below (ε w) w u→∀ (e:Df) (h:Option Addr) (l:Nat) (f:Option Addr) (k:Nat),Cs u h e.ents→rowsEx u f e.body.ks→Calls Tryz.prog g (ψ (Bg e h l f k) :: cap).toArray u fun j w'=>j=.returned (ξ (F e))∧Below (ε u) u w'):Calls Tryz.prog 47 ([τ a m c,.func (.func g) #[] ⟨cap⟩]:List Value).toArray w fun e w'=>e=.returned (ξ (DL F ds))∧Below (ε w) w w':=by
 subst hm
 exact SI F a ds c g cap w d b hg i
def Cp (d:Df) (ns:List (Df)):Int:=cond (decide (Δ d ns < 0)) (0) (Gc ((Ai ((Θ d ns).kind) ((Θ d ns).tb) ((Θ d ns).tm) ((Θ d ns).th) ((Θ d ns).td)).1) ((Ai ((Θ d ns).kind) ((Θ d ns).tb) ((Θ d ns).tm) ((Θ d ns).th) ((Θ d ns).td)).2.1) ((Ai ((Θ d ns).kind) ((Θ d ns).tb) ((Θ d ns).tm) ((Θ d ns).th) ((Θ d ns).td)).2.2.1) ((Ai ((Θ d ns).kind) ((Θ d ns).tb) ((Θ d ns).tm) ((Θ d ns).th) ((Θ d ns).td)).2.2.2) d.tb d.tm d.th d.td)
noncomputable def aM:Code:=Tryz.f50.body.getD .skip
def vB:=ν ([.code aM])
def fS:=Ω vB
def AEc:=Ξ fS
def vA:=Al 4 (AF fS)
def AEb:=AI vA
theorem TV (d:Df) (b:Option Addr) (k:Nat) (a:Option Addr) (j:Nat) (r:Option Addr) (ns:List (Df)) (l:Nat) (w:World) (a0:Cs w b d.ents) (z:rowsEx w a d.body.ks) (p:rowsDf w r ns) (c0:ns.length≤4294967296):Calls Tryz.prog 50 ([ψ ((ω d b k a j)),τ r ns.length l]:List Value).toArray w fun e w'=>e=.returned (δ ((Cp d ns)))∧Below (ε w) w w':=by
 refine AS (fn:=Tryz.f50) (c:=aM) (n:=19) ?_
 have K1:=Wk.start w
 refine Ah vB [ι (ε w) ((Bg d b k a j)) 59] K1 [] fun w1 o=>?_
 refine AP o (args:=[τ r ns.length l,.func (.func 74) #[] ⟨[ζ (ε w)]⟩]) (O6 (fun x=>AE x d) _ ns _ 74 [ζ (ε w)] w1 (p.below o.B) (by first | assumption | omega) (by kernel_rfl) (fun u2 b2 x A1 c1 A2 c2 g1 g2=>Rf x A1 c1 A2 c2 (ε w) d _ _ _ _ u2 g1 g2 (Nat.lt_of_lt_of_le (o.ent (e:=(ι (ε w) ((Bg d b k a j)) 59)) 0 (by kernel_rfl)).1 b2.size) (Ag (Gn (o.ent (e:=(ι (ε w) ((Bg d b k a j)) 59)) 0 (by kernel_rfl))) (o.ent (e:=(ι (ε w) ((Bg d b k a j)) 59)) 0 (by kernel_rfl)).1 b2) (a0.below (o.B.trans (b2.mono o.B.size))) (z.below (o.B.trans (b2.mono o.B.size))))) fun w2 K3=>?_
 refine AB fS K3 [] fun w3 K4=>?_
 refine AG (decide (Δ d ns < 0)) (fun c4=>?_) (fun c4=>?_)
 ·refine AB AEc K4 [] fun w5 K5=>?_
  have hS:(Cp d ns)=0:=by unfold Cp; rw [c4] <;> rfl
  exact AK K5 (0,0) (δ 0) ⟨by rw [hS] <;> rfl,K5.B⟩
 have m:=Yd c4
 rw [m.1]
 refine As 4 vA K4 [] fun w6 K6=>?_
 obtain ⟨s,t,rfl,q,b0⟩:=p.all (Nat.lt_of_le_of_lt (Nat.zero_le _) m.2)
 have d0:ns[(Δ d ns).toNat]?=some (Θ d ns):=getD_some default m.2
 obtain ⟨i,g,h,f,y,g0,e0⟩:=b0 (Δ d ns).toNat _ d0
 refine Av K6 [(3,1,0),(6,0,2)] [⟨2,[(11,τ (some ⟨s,t,none⟩) ns.length l),(12,δ (((Δ d ns).toNat:Int)))],.pointer (some ⟨s,t + (Δ d ns).toNat * 21,none⟩),true⟩,⟨4,[(14,ψ ((ω (Θ d ns) i g h f)))],EQ (Ai ((Θ d ns).kind) ((Θ d ns).tb) ((Θ d ns).tm) ((Θ d ns).th) ((Θ d ns).td)),true⟩,⟨7,[(15,EQ (Ai ((Θ d ns).kind) ((Θ d ns).tb) ((Θ d ns).tm) ((Θ d ns).th) ((Θ d ns).td))),(17,ψ [ξ (d.tb),δ d.tm,δ d.th,δ d.td])],δ (Gc ((Ai ((Θ d ns).kind) ((Θ d ns).tb) ((Θ d ns).tm) ((Θ d ns).th) ((Θ d ns).td)).1) ((Ai ((Θ d ns).kind) ((Θ d ns).tb) ((Θ d ns).tm) ((Θ d ns).th) ((Θ d ns).td)).2.1) ((Ai ((Θ d ns).kind) ((Θ d ns).tb) ((Θ d ns).tm) ((Θ d ns).th) ((Θ d ns).td)).2.2.1) ((Ai ((Θ d ns).kind) ((Θ d ns).tb) ((Θ d ns).tm) ((Θ d ns).th) ((Θ d ns).td)).2.2.2) d.tb d.tm d.th d.td),true⟩] (Mn (x:=⟨s,t + (Δ d ns).toNat * 21,ω (Θ d ns) i g h f,59,false⟩) K6.G ⟨Nat.lt_of_lt_of_le q K6.B.size,Ag y q K6.B⟩) (fun sp v=>?_) fun w7 E7 K7=>?_
 ·simp only [List.mem_cons,List.not_mem_nil,or_false] at v
  rcases v with rfl | rfl | rfl
  ·exact BQ fun _ E u _=>CE (sz:=21) (cap:=l) 25 (.tmp 11) (.tmp 12) m.2 Tryz.underlying25
  ·exact AY 73 [.tmp 14] [ψ ((ω (Θ d ns) i g h f))] (fun _=>by kernel_rfl) fun hc u hu=>AQ hu (JP ((Θ d ns).kind) ((Θ d ns).name) ((Θ d ns).tb) ((Θ d ns).tm) ((Θ d ns).th) ((Θ d ns).td) ((Θ d ns).frm) i ((Θ d ns).ents.length) g ((Θ d ns).body.op) ((Θ d ns).body.num) ((Θ d ns).body.den) ((Θ d ns).body.mu) ((Θ d ns).body.hu) ((Θ d ns).body.du) ((Θ d ns).body.nm) ((Θ d ns).body.cnt) ((Θ d ns).body.md) h ((Θ d ns).body.ks.length) f ((Θ d ns).mode) ((Θ d ns).num) ((Θ d ns).den) u)
  exact AY 75 [.tmp 15,.tmp 17] [EQ (Ai ((Θ d ns).kind) ((Θ d ns).tb) ((Θ d ns).tm) ((Θ d ns).th) ((Θ d ns).td)),ψ [ξ (d.tb),δ d.tm,δ d.th,δ d.td]] (fun _=>by kernel_rfl) fun hc u hu=>AQ hu (TE ((Ai ((Θ d ns).kind) ((Θ d ns).tb) ((Θ d ns).tm) ((Θ d ns).th) ((Θ d ns).td)).1) ((Ai ((Θ d ns).kind) ((Θ d ns).tb) ((Θ d ns).tm) ((Θ d ns).th) ((Θ d ns).td)).2.1) ((Ai ((Θ d ns).kind) ((Θ d ns).tb) ((Θ d ns).tm) ((Θ d ns).th) ((Θ d ns).td)).2.2.1) ((Ai ((Θ d ns).kind) ((Θ d ns).tb) ((Θ d ns).tm) ((Θ d ns).th) ((Θ d ns).td)).2.2.2) d.tb d.tm d.th d.td u)
 refine AB AEb K7 [] fun w8 K8=>?_
 have hS:(Cp d ns)=Gc ((Ai ((Θ d ns).kind) ((Θ d ns).tb) ((Θ d ns).tm) ((Θ d ns).th) ((Θ d ns).td)).1) ((Ai ((Θ d ns).kind) ((Θ d ns).tb) ((Θ d ns).tm) ((Θ d ns).th) ((Θ d ns).td)).2.1) ((Ai ((Θ d ns).kind) ((Θ d ns).tb) ((Θ d ns).tm) ((Θ d ns).th) ((Θ d ns).td)).2.2.1) ((Ai ((Θ d ns).kind) ((Θ d ns).tb) ((Θ d ns).tm) ((Θ d ns).th) ((Θ d ns).td)).2.2.2) d.tb d.tm d.th d.td:=by unfold Cp; rw [c4] <;> rfl
 exact AK K8 (0,0) (δ (Gc ((Ai ((Θ d ns).kind) ((Θ d ns).tb) ((Θ d ns).tm) ((Θ d ns).th) ((Θ d ns).td)).1) ((Ai ((Θ d ns).kind) ((Θ d ns).tb) ((Θ d ns).tm) ((Θ d ns).th) ((Θ d ns).td)).2.1) ((Ai ((Θ d ns).kind) ((Θ d ns).tb) ((Θ d ns).tm) ((Θ d ns).th) ((Θ d ns).td)).2.2.1) ((Ai ((Θ d ns).kind) ((Θ d ns).tb) ((Θ d ns).tm) ((Θ d ns).th) ((Θ d ns).td)).2.2.2) d.tb d.tm d.th d.td)) ⟨by rw [hS] <;> rfl,K8.B⟩
theorem Gw:∀ (es a b c:List Df),(CM es a b c).1.length≤a.length + es.length∧(CM es a b c).2.1.length≤b.length + es.length∧(CM es a b c).2.2.length≤c.length + es.length
 | [],a,b,c=>by rw [CM]; exact ⟨Nat.le_refl _,Nat.le_refl _,Nat.le_refl _⟩
 | e :: es,a,b,c=>by
  have g:=Gw es a b c
  have f:=Gw es (a++[e]) b c
  have h2:=Gw es a (b++[e]) c
  have d:=Gw es a b (c++[e])
  simp only [List.length_append,List.length_singleton] at f h2 d
  rw [CM,List.length_cons]
  cases e.kind == 1 <;> cases e.kind == 3 <;> cases e.kind == 4 <;> cases e.kind == 2 <;> cases e.kind == 5 <;> simp only [cond_true,cond_false] <;> omega
theorem Yi (ds:List Df):(AW ds).1.length≤ds.length∧(AW ds).2.1.length≤ds.length∧(AW ds).2.2.length≤ds.length:=by
 have:=Gw ds [] [] []
 simpa [AW] using this
def CF (ds:List (Df)):List (Df)→Nat→List (Int×Int)→List (Int×Int)×Int
 | [],i0,a0_0=>(a0_0,0)
 | e0 :: tl,i0,a0_0=>cond (DL (fun x=>Eb x e0) (ds.take i0)) (CF ds tl (i0 + 1) (a0_0++[((i0:Int),8)])) (cond (e0.kind == 5) (cond (!((Cp e0 (((AW ds)).1)) == 0)) (CF ds tl (i0 + 1) (a0_0++[((i0:Int),(Cp e0 (((AW ds)).1)))])) (CF ds tl (i0 + 1) a0_0)) (cond (cond (e0.kind == 3) (true) (e0.kind == 4)) (cond (!(Cz e0 (((AW ds)).1) (((AW ds)).2.1) (((AW ds)).2.2) == 0)) (CF ds tl (i0 + 1) (a0_0++[((i0:Int),Cz e0 (((AW ds)).1) (((AW ds)).2.1) (((AW ds)).2.2))])) (CF ds tl (i0 + 1) a0_0)) (CF ds tl (i0 + 1) a0_0)))
theorem TW {ds:List (Df)} {b:Nat} {a:List (Int×Int)}:CF ds [] b a=((a,0)):=by rw [CF]
theorem SS {ds:List (Df)} {a:List (Int×Int)} {es:List (Df)} (b:Nat) (c:Df) (hi:es[b]?=some c):CF ds (es.drop b) b a=(cond (DL (fun x=>Eb x c) (ds.take b)) (CF ds (es.drop (b + 1)) (b + 1) (a++[((b:Int),8)])) (cond (c.kind == 5) (cond (!((Cp c (((AW ds)).1)) == 0)) (CF ds (es.drop (b + 1)) (b + 1) (a++[((b:Int),(Cp c (((AW ds)).1)))])) (CF ds (es.drop (b + 1)) (b + 1) a)) (cond (cond (c.kind == 3) (true) (c.kind == 4)) (cond (!(Cz c (((AW ds)).1) (((AW ds)).2.1) (((AW ds)).2.2) == 0)) (CF ds (es.drop (b + 1)) (b + 1) (a++[((b:Int),Cz c (((AW ds)).1) (((AW ds)).2.1) (((AW ds)).2.2))])) (CF ds (es.drop (b + 1)) (b + 1) a)) (CF ds (es.drop (b + 1)) (b + 1) a)))):=by
 have hl:b < es.length:=(List.getElem?_eq_some_iff.1 hi).1
 have he:es[b]=c:=(List.getElem?_eq_some_iff.1 hi).2
 rw [← List.getElem_cons_drop hl,CF] <;> (try rw [he])
def Ca (p0a:List UInt8) (ds:List (Df)):List (Int×Int)×Int:=cond (!(EK p0a ds)) (([],1)) (CF ds ds 0 ([]))
noncomputable def aN:Code:=Tryz.f35.body.getD .skip
def vF:=ν ([.code aN])
def fW:=Ω vF
def AEd:=Ξ fW
def vE:=Ψ fW
def LH:=Ω vE
def UI:=ν (Ar LH)
def fV:=AA (An Ae 90 (AD UI)) (AD UI)
def vD:=AA (An XP 90 (AC (AC fV))) (AC (AC fV))
def vC:=Ω vD
def fT:=Ω vC
def Wj:=Ξ fT
def ln:=AA (An Bp 90 (AD Wj)) (AD Wj)
def Wi:=Ψ fT
def lm:=Ξ Wi
def Wh:=Ω lm
def ll:=AA (An Bp 90 (AD Wh)) (AD Wh)
def lk:=Al 13 (AF Wi)
def Wg:=AI lk
def lj:=Ξ Wg
def Wf:=Ω lj
def lh:=AA (An Bp 90 (AD Wf)) (AD Wf)
def ABA:=Ψ Wg
def AA9:=Ψ UI
theorem nv (v:List UInt8) (j0:Option Addr) (ds:List (Df)) (a:Nat) (w:World) (v0:rowsDf w j0 ds) (d1:ds.length≤4294967296) (hs:v.length≤4294967296) (ht:∀ d∈ds,Fc d) (h5:ds.length≤a):Calls Tryz.prog 35 ([ψ [η v,τ j0 ds.length a]]:List Value).toArray w fun e w'=>∃ (x1:Option Addr) (v1:Nat),e=.returned (.tuple #[τ x1 ((((Ca v ds)).1).length) v1,δ (((Ca v ds)).2)])∧Below (ε w) w w'∧Aj (ε w) w' [LX x1 v1 (((Ca v ds)).1)]:=by
 refine AS (fn:=Tryz.f35) (c:=aN) (n:=63) ?_
 have K1:=Wk.start w
 refine Ah vF [ι (ε w) [η v,τ j0 ds.length a] 27] K1 [(0,0)] fun w1 K2=>?_
 refine AP K2 (args:=[ψ [η v,τ j0 ds.length a]]) (P6 v ds _ w1 hs d1 ht (v0.below K2.B).agr) fun w2 K3=>?_
 refine AB fW K3 [] fun w3 K4=>?_
 refine AG (!(EK v ds)) (fun c4=>?_) (fun c4=>?_)
 ·have K5:=K4.addNil 106 2 (fun e r=>r=mB e)
  refine AB AEd K5 [] fun w5 K6=>?_
  have hS:(Ca v ds)=([],1):=by unfold Ca; rw [c4] <;> rfl
  exact AK K6 (0,0) (.tuple #[τ none 0 0,δ 1]) ⟨none,0,by rw [hS] <;> rfl,K6.B,by rw [hS]; exact K6.own0 [0] rfl (by decide)⟩
 refine AB vE K4 [(0,0)] fun w6 K7=>?_
 have Kf:=(K7.pickL (L':=[]++[]) [] rfl (by decide)).front
 refine BA (gb _ v j0 ds a w w6 v0 (by first | assumption | omega | (simp <;> omega)) K7.B Kf) fun en w8 hh=>?_
 obtain ⟨o,j,u,q,s,p,rfl,b8,Hn⟩:=hh
 refine ⟨_,rfl,?_⟩
 have K8:=Wk.unfront b8 Hn
 have a7:=Yi ds
 have f7:(AW ds).1.length≤4294967296:=by omega
 have c7:(AW ds).2.1.length≤4294967296:=by omega
 have b7:(AW ds).2.2.length≤4294967296:=by omega
 refine AB LH K8 [(0,1)] fun w9 K9=>?_
 have w4:Wk w w9 [ι (ε w) [η v,τ j0 ds.length a] 27] [(C8 w o j (((AW ds)).1)),(C8 w u q (((AW ds)).2.1)),(C8 w s p (((AW ds)).2.2))] []:=K9.pk [0] [0,1,2]
 have v4:=w4.addNil 106 2 (fun e r=>r=mB e)
 have l0:(Ca v ds)=CF ds ds 0 ([]):=by unfold Ca; rw [c4] <;> rfl
 refine AU [(1,ζ (ε w)),(2,τ none 0 0),(3,δ 0),(4,τ o ((((AW ds)).1).length) j),(5,τ u ((((AW ds)).2.1).length) q),(6,τ s ((((AW ds)).2.2).length) p),(7,τ none 0 0),(21,τ j0 ds.length a),(22,δ ((ds.length:Int))),(23,δ (((0:Nat):Int)))] fun g5=>?_
 refine Bo (by kernel_rfl) (fun E r1=>∃ (f:Nat) (b:List (Int×Int)) (m:Option Addr) (l:Nat) (E0:Nat→Value),f≤ds.length∧E=BE E0 [(1,ζ (ε w)),(2,τ none 0 0),(3,δ 0),(4,τ o ((((AW ds)).1).length) j),(5,τ u ((((AW ds)).2.1).length) q),(6,τ s ((((AW ds)).2.2).length) p),(7,τ m b.length l),(21,τ j0 ds.length a),(22,δ ((ds.length:Int))),(23,δ ((f:Int)))]∧(Ca v ds)=CF ds (List.drop f ds) f b∧b.length≤1 * f + 0∧Wk w r1 [ι (ε w) [η v,τ j0 ds.length a] 27] [(C8 w o j (((AW ds)).1)),(C8 w u q (((AW ds)).2.1)),(C8 w s p (((AW ds)).2.2)),(LX m l b)] []) (fun E _=>ds.length - AL (E 23)) ⟨0,([]),none,0,g5,Nat.zero_le _,rfl,l0,by simp,v4⟩ ?_
 clear l0
 rintro E r1 ⟨f,b,m,l,E0,x6,rfl,l0,e3,t4⟩ c0
 refine AB UI t4 [] fun v6 p2=>?_
 refine AG (decide ((f:Int) < (ds.length:Int))) (fun m1=>?_) (fun m1=>?_)
 ·have k0:f < ds.length:=by have:=of_decide_eq_true m1; omega
  obtain ⟨e0,e1⟩:∃ e,ds[f]?=some e:=⟨_,List.getElem?_eq_getElem k0⟩
  rw [SS f e0 e1] at l0
  obtain ⟨d0,g0,rfl,d2,e2⟩:=v0.all (by omega)
  obtain ⟨b0,z,a0,y,z1,r0,q0⟩:=e2 f _ e1
  refine Ak Ae fV p2 [] fun m0 o2=>?_
  refine Ay (g:=d0) (off:=g0) (cap:=a) (sz:=21) (k:=f) (len:=ds.length) (some 26) k0 Tryz.underlying25 ?_
  refine BN 59 d0 (g0 + f * 21) _ (some 27) (Ag z1 d2 o2.B) ?_
  refine CY XP vD [ι (ε w) [η v,τ (some ⟨d0,g0,none⟩) ds.length a] 27,ι (ε m0) ((Bg e0 b0 z a0 y)) 59] o2 [(1,0),(0,1)] fun t6 q4=>?_
  refine DN (qK (g:=d0) (off:=g0) (len:=ds.length) (cap:=a) (t:=25) (x:=.tmp 29) (h:=.tmp 30) (by kernel_rfl) Tryz.underlying25 (by decide) (by kernel_rfl) (by kernel_rfl) (i:=f) (by omega)) ?_
  refine AB vC q4 [] fun b3 p0=>?_
  refine AP p0 (args:=[τ (some ⟨d0,g0,none⟩) f a,.func (.func 48) #[] ⟨[ζ (ε m0)]⟩]) (RX (fun x=>Eb x e0) _ (ds.take f) _ 48 [ζ (ε m0)] b3 ((v0.take _).below p0.B) (by simp <;> omega) (by simp <;> omega) (by kernel_rfl) (fun u2 b2 x A1 c1 A2 c2 g1 g2=>Yp x A1 c1 A2 c2 (ε m0) e0 _ _ _ _ u2 g1 g2 (Nat.lt_of_lt_of_le (p0.ent (e:=(ι (ε m0) ((Bg e0 b0 z a0 y)) 59)) 1 (by kernel_rfl)).1 b2.size) (Ag (Gn (p0.ent (e:=(ι (ε m0) ((Bg e0 b0 z a0 y)) 59)) 1 (by kernel_rfl))) (p0.ent (e:=(ι (ε m0) ((Bg e0 b0 z a0 y)) 59)) 1 (by kernel_rfl)).1 b2) (r0.below (p0.B.trans (b2.mono p0.B.size))) (q0.below (p0.B.trans (b2.mono p0.B.size))))) fun q6 p4=>?_
  refine AB fT p4 [] fun m6 n2=>?_
  refine AG (DL (fun x=>Eb x e0) (ds.take f)) (fun s0=>?_) (fun s0=>?_)
  ·refine AB Wj n2 [] fun u1 n4=>?_
   refine AG true (fun _=>?_) (fun h=>nomatch h)
   refine CY Bp ln [ι (ε w) [η v,τ (some ⟨d0,g0,none⟩) ds.length a] 27,ι (ε m0) ((Bg e0 b0 z a0 y)) 59,ι (ε u1) [δ ((f:Int)),δ 8] 106] n4 [] fun k6 a1=>?_
   refine Cw a1.H (a1.ix 3) (a1.at 3 rfl) (((f:Int),8)) [δ ((f:Int)),δ 8] rfl (ε u1) (a1.ent 2 (by kernel_rfl)) (CL ln) (by kernel_rfl) (.tmp 55) (.tmp 59) 102 (by kernel_rfl) (by kernel_rfl) (by kernel_rfl) (by decide) (by kernel_rfl) (by kernel_rfl) rfl rfl (by ((try simp only [maxLen,List.length_append,List.length_cons,List.length_nil,List.length_singleton]) <;> omega)) fun q1 l1 h6 Hn i3=>?_
   have k4:=a1.put 3 (by simp) i3 Hn
   refine AB (AZ LH) k4 [] fun a3 h4=>?_
   refine AU [(1,ζ (ε w)),(2,τ none 0 0),(3,δ 0),(4,τ o ((((AW ds)).1).length) j),(5,τ u ((((AW ds)).2.1).length) q),(6,τ s ((((AW ds)).2.2).length) p),(7,τ q1 ((b++[((f:Int),8)]).length) l1),(21,τ (some ⟨d0,g0,none⟩) ds.length a),(22,δ ((ds.length:Int))),(23,δ (IntKind.i64.wrap ((f:Int) + 1)))] fun e5=>?_
   have g4:Wk w a3 [ι (ε w) [η v,τ (some ⟨d0,g0,none⟩) ds.length a] 27] [(C8 w o j (((AW ds)).1)),(C8 w u q (((AW ds)).2.1)),(C8 w s p (((AW ds)).2.2)),(LX q1 l1 (b++[((f:Int),8)]))] []:=h4.pk [0] [0,1,2,3]
   rw [Bl f (by omega)]
   refine c0 _ _ ⟨f + 1,(b++[((f:Int),8)]),q1,l1,e5,k0,rfl,by rw [l0,s0] <;> rfl,by ((try simp only [maxLen,List.length_append,List.length_cons,List.length_nil,List.length_singleton]) <;> omega),g4⟩ ?_
   show ds.length - AL (δ ((f + 1:Nat):Int)) < ds.length - AL (δ (f:Int))
   simp only [AL]
   omega
  refine AB Wi n2 [(1,0)] fun g6 m2=>?_
  refine AG (e0.kind == 5) (fun w0=>?_) (fun w0=>?_)
  ·refine AB lm m2 [(1,0)] fun z2 t0=>?_
   refine BA (TV e0 b0 z a0 y o (((AW ds)).1) j z2 (r0.below t0.B) (q0.below t0.B) (t0.H.rowsDf t0.B (t0.ix 0) (t0.at 0 rfl)) (by first | assumption | omega | (simp <;> omega))) fun en f6 hh=>?_
   obtain ⟨rfl,h3⟩:=hh
   refine ⟨_,rfl,?_⟩
   have f4:=t0.below h3
   refine AB Wh f4 [] fun t1 l2=>?_
   refine AG (!((Cp e0 (((AW ds)).1)) == 0)) (fun k1=>?_) (fun k1=>?_)
   ·refine CY Bp ll [ι (ε w) [η v,τ (some ⟨d0,g0,none⟩) ds.length a] 27,ι (ε m0) ((Bg e0 b0 z a0 y)) 59,ι (ε t1) [δ ((f:Int)),δ ((Cp e0 (((AW ds)).1)))] 106] l2 [] fun c6 z0=>?_
    refine Cw z0.H (z0.ix 3) (z0.at 3 rfl) (((f:Int),(Cp e0 (((AW ds)).1)))) [δ ((f:Int)),δ ((Cp e0 (((AW ds)).1)))] rfl (ε t1) (z0.ent 2 (by kernel_rfl)) (CL ll) (by kernel_rfl) (.tmp 55) (.tmp 59) 102 (by kernel_rfl) (by kernel_rfl) (by kernel_rfl) (by decide) (by kernel_rfl) (by kernel_rfl) rfl rfl (by ((try simp only [maxLen,List.length_append,List.length_cons,List.length_nil,List.length_singleton]) <;> omega)) fun p1 i1 b6 Hn g3=>?_
    have e4:=z0.put 3 (by simp) g3 Hn
    refine AB (AZ LH) e4 [] fun x2 b4=>?_
    refine AU [(1,ζ (ε w)),(2,τ none 0 0),(3,δ 0),(4,τ o ((((AW ds)).1).length) j),(5,τ u ((((AW ds)).2.1).length) q),(6,τ s ((((AW ds)).2.2).length) p),(7,τ p1 ((b++[((f:Int),(Cp e0 (((AW ds)).1)))]).length) i1),(21,τ (some ⟨d0,g0,none⟩) ds.length a),(22,δ ((ds.length:Int))),(23,δ (IntKind.i64.wrap ((f:Int) + 1)))] fun c5=>?_
    have a4:Wk w x2 [ι (ε w) [η v,τ (some ⟨d0,g0,none⟩) ds.length a] 27] [(C8 w o j (((AW ds)).1)),(C8 w u q (((AW ds)).2.1)),(C8 w s p (((AW ds)).2.2)),(LX p1 i1 (b++[((f:Int),(Cp e0 (((AW ds)).1)))]))] []:=b4.pk [0] [0,1,2,3]
    rw [Bl f (by omega)]
    refine c0 _ _ ⟨f + 1,(b++[((f:Int),(Cp e0 (((AW ds)).1)))]),p1,i1,c5,k0,rfl,by rw [l0,s0,w0,k1] <;> rfl,by ((try simp only [maxLen,List.length_append,List.length_cons,List.length_nil,List.length_singleton]) <;> omega),a4⟩ ?_
    show ds.length - AL (δ ((f + 1:Nat):Int)) < ds.length - AL (δ (f:Int))
    simp only [AL]
    omega
   refine AB (AZ LH) l2 [] fun v2 z3=>?_
   refine AU [(1,ζ (ε w)),(2,τ none 0 0),(3,δ 0),(4,τ o ((((AW ds)).1).length) j),(5,τ u ((((AW ds)).2.1).length) q),(6,τ s ((((AW ds)).2.2).length) p),(7,τ m b.length l),(21,τ (some ⟨d0,g0,none⟩) ds.length a),(22,δ ((ds.length:Int))),(23,δ (IntKind.i64.wrap ((f:Int) + 1)))] fun b5=>?_
   have x3:Wk w v2 [ι (ε w) [η v,τ (some ⟨d0,g0,none⟩) ds.length a] 27] [(C8 w o j (((AW ds)).1)),(C8 w u q (((AW ds)).2.1)),(C8 w s p (((AW ds)).2.2)),(LX m l b)] []:=z3.pk [0] [0,1,2,3]
   rw [Bl f (by omega)]
   refine c0 _ _ ⟨f + 1,b,m,l,b5,k0,rfl,by rw [l0,s0,w0,k1] <;> rfl,by ((try simp only [maxLen,List.length_append,List.length_cons,List.length_nil,List.length_singleton]) <;> omega),x3⟩ ?_
   show ds.length - AL (δ ((f + 1:Nat):Int)) < ds.length - AL (δ (f:Int))
   simp only [AL]
   omega
  refine As 13 lk m2 [] fun a6 k2=>?_
  refine Av k2 [(1,1,0),(5,1,0)] [] k2.G (fun sp c3=>by cases c3) fun z5 h7 v3=>?_
  refine AB Wg v3 [] fun x5 i2=>?_
  refine AG (cond (e0.kind == 3) (true) (e0.kind == 4)) (fun b1=>?_) (fun b1=>?_)
  ·refine AB lj i2 [(1,0)] fun t2 h0=>?_
   refine AP h0 (args:=[ψ ((ω e0 b0 z a0 y)),τ o ((((AW ds)).1).length) j,τ u ((((AW ds)).2.1).length) q,τ s ((((AW ds)).2.2).length) p]) (TX e0 b0 z a0 y o (((AW ds)).1) j u (((AW ds)).2.1) q s (((AW ds)).2.2) p t2 (r0.below h0.B) (q0.below h0.B) (h0.H.rowsDf h0.B (h0.ix 0) (h0.at 0 rfl)) (by first | assumption | omega | (simp <;> omega)) (h0.H.rowsDf h0.B (h0.ix 1) (h0.at 1 rfl)) (by first | assumption | omega | (simp <;> omega)) (h0.H.rowsDf h0.B (h0.ix 2) (h0.at 2 rfl)) (by first | assumption | omega | (simp <;> omega)) (ht _ (List.mem_of_getElem? e1)).1) fun v5 t3=>?_
   refine AB Wf t3 [] fun s1 h2=>?_
   refine AG (!(Cz e0 (((AW ds)).1) (((AW ds)).2.1) (((AW ds)).2.2) == 0)) (fun h1=>?_) (fun h1=>?_)
   ·refine CY Bp lh [ι (ε w) [η v,τ (some ⟨d0,g0,none⟩) ds.length a] 27,ι (ε m0) ((Bg e0 b0 z a0 y)) 59,ι (ε s1) [δ ((f:Int)),δ (Cz e0 (((AW ds)).1) (((AW ds)).2.1) (((AW ds)).2.2))] 106] h2 [] fun u5 x0=>?_
    refine Cw x0.H (x0.ix 3) (x0.at 3 rfl) (((f:Int),Cz e0 (((AW ds)).1) (((AW ds)).2.1) (((AW ds)).2.2))) [δ ((f:Int)),δ (Cz e0 (((AW ds)).1) (((AW ds)).2.1) (((AW ds)).2.2))] rfl (ε s1) (x0.ent 2 (by kernel_rfl)) (CL lh) (by kernel_rfl) (.tmp 55) (.tmp 59) 102 (by kernel_rfl) (by kernel_rfl) (by kernel_rfl) (by decide) (by kernel_rfl) (by kernel_rfl) rfl rfl (by ((try simp only [maxLen,List.length_append,List.length_cons,List.length_nil,List.length_singleton]) <;> omega)) fun o1 f1 t5 Hn f3=>?_
    have r3:=x0.put 3 (by simp) f3 Hn
    refine AB (AZ LH) r3 [] fun s2 q3=>?_
    refine AU [(1,ζ (ε w)),(2,τ none 0 0),(3,δ 0),(4,τ o ((((AW ds)).1).length) j),(5,τ u ((((AW ds)).2.1).length) q),(6,τ s ((((AW ds)).2.2).length) p),(7,τ o1 ((b++[((f:Int),Cz e0 (((AW ds)).1) (((AW ds)).2.1) (((AW ds)).2.2))]).length) f1),(21,τ (some ⟨d0,g0,none⟩) ds.length a),(22,δ ((ds.length:Int))),(23,δ (IntKind.i64.wrap ((f:Int) + 1)))] fun a5=>?_
    have p3:Wk w s2 [ι (ε w) [η v,τ (some ⟨d0,g0,none⟩) ds.length a] 27] [(C8 w o j (((AW ds)).1)),(C8 w u q (((AW ds)).2.1)),(C8 w s p (((AW ds)).2.2)),(LX o1 f1 (b++[((f:Int),Cz e0 (((AW ds)).1) (((AW ds)).2.1) (((AW ds)).2.2))]))] []:=q3.pk [0] [0,1,2,3]
    rw [Bl f (by omega)]
    refine c0 _ _ ⟨f + 1,(b++[((f:Int),Cz e0 (((AW ds)).1) (((AW ds)).2.1) (((AW ds)).2.2))]),o1,f1,a5,k0,rfl,by rw [l0,s0,w0,b1,h1] <;> rfl,by ((try simp only [maxLen,List.length_append,List.length_cons,List.length_nil,List.length_singleton]) <;> omega),p3⟩ ?_
    show ds.length - AL (δ ((f + 1:Nat):Int)) < ds.length - AL (δ (f:Int))
    simp only [AL]
    omega
   refine AB (AZ LH) h2 [] fun r2 o3=>?_
   refine AU [(1,ζ (ε w)),(2,τ none 0 0),(3,δ 0),(4,τ o ((((AW ds)).1).length) j),(5,τ u ((((AW ds)).2.1).length) q),(6,τ s ((((AW ds)).2.2).length) p),(7,τ m b.length l),(21,τ (some ⟨d0,g0,none⟩) ds.length a),(22,δ ((ds.length:Int))),(23,δ (IntKind.i64.wrap ((f:Int) + 1)))] fun z4=>?_
   have n3:Wk w r2 [ι (ε w) [η v,τ (some ⟨d0,g0,none⟩) ds.length a] 27] [(C8 w o j (((AW ds)).1)),(C8 w u q (((AW ds)).2.1)),(C8 w s p (((AW ds)).2.2)),(LX m l b)] []:=o3.pk [0] [0,1,2,3]
   rw [Bl f (by omega)]
   refine c0 _ _ ⟨f + 1,b,m,l,z4,k0,rfl,by rw [l0,s0,w0,b1,h1] <;> rfl,by ((try simp only [maxLen,List.length_append,List.length_cons,List.length_nil,List.length_singleton]) <;> omega),n3⟩ ?_
   show ds.length - AL (δ ((f + 1:Nat):Int)) < ds.length - AL (δ (f:Int))
   simp only [AL]
   omega
  refine AB ABA i2 [] fun q5 m3=>?_
  refine AG false (fun h=>nomatch h) (fun _=>?_)
  refine AB (AZ LH) m3 [] fun q2 l3=>?_
  refine AU [(1,ζ (ε w)),(2,τ none 0 0),(3,δ 0),(4,τ o ((((AW ds)).1).length) j),(5,τ u ((((AW ds)).2.1).length) q),(6,τ s ((((AW ds)).2.2).length) p),(7,τ m b.length l),(21,τ (some ⟨d0,g0,none⟩) ds.length a),(22,δ ((ds.length:Int))),(23,δ (IntKind.i64.wrap ((f:Int) + 1)))] fun x4=>?_
  have k3:Wk w q2 [ι (ε w) [η v,τ (some ⟨d0,g0,none⟩) ds.length a] 27] [(C8 w o j (((AW ds)).1)),(C8 w u q (((AW ds)).2.1)),(C8 w s p (((AW ds)).2.2)),(LX m l b)] []:=l3.pk [0] [0,1,2,3]
  rw [Bl f (by omega)]
  refine c0 _ _ ⟨f + 1,b,m,l,x4,k0,rfl,by rw [l0,s0,w0,b1] <;> rfl,by ((try simp only [maxLen,List.length_append,List.length_cons,List.length_nil,List.length_singleton]) <;> omega),k3⟩ ?_
  show ds.length - AL (δ ((f + 1:Nat):Int)) < ds.length - AL (δ (f:Int))
  simp only [AL]
  omega
 have a2:f=ds.length:=by have:=of_decide_eq_false m1; omega
 rw [a2,List.drop_length,TW] at l0
 refine AB AA9 p2 [] fun k5 n1=>?_
 have hS:(Ca v ds)=(b,0):=by rw [l0] <;> rfl
 exact AK n1 (0,0) (.tuple #[τ m b.length l,δ 0]) ⟨m,l,by rw [hS] <;> rfl,n1.B,by rw [hS]; exact n1.own0 [3] rfl (by decide)⟩
end
end Go.Proofs.YtkjbdagicjbjjaaGreat
namespace Go.Proofs.YtkjbdagicjbjjaaGreat
noncomputable section
open Go.RowKit
set_option maxRecDepth 100000
set_option maxHeartbeats 1000000
abbrev Ao:=Int×List UInt8×Int×Int×Int
abbrev D1 (a:Ao):List Value:=[δ a.1,η (a.2.1),δ a.2.2.1,δ a.2.2.2.1,δ a.2.2.2.2]
def Ow (a:Ao):List Lit:=[.int .i64 a.1,.string a.2.1,.int .i64 a.2.2.1,.int .i64 a.2.2.2.1,.int .i64 a.2.2.2.2]
def EX (x:Int):Prop:=-9223372036854775808≤x∧x≤9223372036854775807
def H3 (a:Ao):Prop:=EX a.1∧a.2.1.length≤4294967296∧EX a.2.2.1∧EX a.2.2.2.1∧EX a.2.2.2.2
theorem qC:laidOutB Tryz.prog=true:=by kernel_rfl
theorem Ss:WideMaps.KeyLaw Tryz.prog 117:=deep_law_laid qC (m:=3) (by omega) (of_decide_eq_true (by kernel_rfl)) (by kernel_rfl) (by kernel_rfl)
theorem l9 (a:Ao) (ha:H3 a):keyOf Tryz.prog 117 (ψ (D1 a))=some (.string (keyBytes (Ow a))):=by
 obtain ⟨e,h2,d,c,b⟩:=ha
 have i:=HW e.1 e.2
 have h:=HW d.1 d.2
 have g:=HW c.1 c.2
 have f:=HW b.1 b.2
 have j:Tryz.prog.keyType 117=true:=by kernel_rfl
 have hf:(Value.agg ⟨D1 a⟩).formed Tryz.prog 117=true:=by kernel_rfl
 have p:Tryz.prog.cellsOf 117=5:=by kernel_rfl
 have o:Tryz.prog.cellsOf 41=2:=by kernel_rfl
 have n:Tryz.prog.cellsOf 3=1:=by kernel_rfl
 have l:Tryz.prog.cellsOf 9=1:=by kernel_rfl
 have hb:Nat.ble 2 Tryz.prog.types.size=true:=by kernel_rfl
 have k:=Nat.le_of_ble_eq_true hb
 obtain ⟨m,hm⟩:∃ m,Tryz.prog.types.size + 1=m + 3:=⟨Tryz.prog.types.size - 2,by omega⟩
 have hl:Tryz.prog.keyLits (m + 3) 117 (D1 a)=some (Ow a):=by
  simp [Program.keyLits,Tryz.underlying117,Tryz.underlying41,Tryz.underlying3,Tryz.underlying9,p,o,n,l,i,h,g,f,D1,Ow]
  rw [if_pos (show ({ data:={ toList:=a.2.1 } }:ByteArray).size≤maxLen from by show a.2.1.length≤maxLen; unfold maxLen; omega),if_pos (by decide)]
  rfl
 unfold keyOf
 rw [Tryz.underlying117]
 simp only [j,hf,Bool.and_self,if_true,hm]
 show Option.map _ (Tryz.prog.keyLits (m + 3) 117 (D1 a))=_
 rw [hl]
 rfl
theorem vH (a:Ao) (ha:H3 a):∀ l∈Ow a,l.keyWf:=by
 obtain ⟨e,h2,d,c,b⟩:=ha
 intro l hl
 simp only [Ow,List.mem_cons,List.not_mem_nil,or_false] at hl
 rcases hl with rfl | rfl | rfl | rfl | rfl
 ·exact HW e.1 e.2
 ·show a.2.1.length≤maxLen
  unfold maxLen
  omega
 ·exact HW d.1 d.2
 ·exact HW c.1 c.2
 exact HW b.1 b.2
def pj:Value→Option (DataW Unit×List MemPlace)
 | .agg ⟨[.int .i64 x,.int .i64 y]⟩=>some (.agg [.lit (.int .i64 x),.lit (.int .i64 y)],[])
 | _=>none
def Cf:Bc Ao (Int×Int) where
 k:=117
 e:=41
 t:=83
 kv a:=.agg ⟨D1 a⟩
 kl a:=.string (keyBytes (Ow a))
 ka a:=H3 a
 ev v:=.agg ⟨BT v⟩
 ea _:=True
 z:=(0,0)
 R:=pj
 code v:=.agg [.lit (.int .i64 v.1),.lit (.int .i64 v.2)]
 K:=Maps.Keyed.of_law Ss
 ht:=Tryz.underlying83
 key a ha:=l9 a ha
 isKey _:=trivial
 inj a b ha hb h:=by
  injection h with h
  have:=keyBytes_inj (l:=Ow a) (l':=Ow b) ⟨rfl,trivial,rfl,rfl,rfl,trivial⟩ (vH a ha) (vH b hb) h
  simp only [Ow,List.cons.injEq,Lit.int.injEq,Lit.string.injEq,true_and,and_true] at this
  exact Prod.ext this.1 (Prod.ext this.2.1 (Prod.ext this.2.2.1 (Prod.ext this.2.2.2.1 this.2.2.2.2)))
 hz w:=Tryz.zeroValue41 w
 za:=trivial
 hR _ _:=rfl
 hinv x v ps h:=by
  unfold pj at h
  split at h
  ·simp only [Option.some.injEq,Prod.mk.injEq,DataW.agg.injEq,List.cons.injEq,DataW.lit.injEq,Lit.int.injEq,true_and,and_true] at h
   rw [h.1.1,h.1.2]
  cases h
def XD:Bc Ao Bool where
 k:=117
 e:=4
 t:=115
 kv a:=.agg ⟨D1 a⟩
 kl a:=.string (keyBytes (Ow a))
 ka a:=H3 a
 ev b:=.bool b
 ea _:=True
 z:=false
 R v:=match v with | .bool x=>some (.lit (.bool x),[]) | _=>none
 code b:=.lit (.bool b)
 K:=Maps.Keyed.of_law Ss
 ht:=Tryz.underlying115
 key a ha:=l9 a ha
 isKey _:=trivial
 inj:=Cf.inj
 hz w:=Tryz.zeroValue4 w
 za:=trivial
 hR _ _:=rfl
 hinv:=EJ.hinv
def Ez:Bc (List UInt8) (Int×Int) where
 k:=9
 e:=41
 t:=79
 kv s:=.string ⟨⟨s⟩⟩
 kl s:=.string s
 ka s:=s.length≤4294967296
 ev v:=.agg ⟨BT v⟩
 ea _:=True
 z:=(0,0)
 R:=pj
 code v:=.agg [.lit (.int .i64 v.1),.lit (.int .i64 v.2)]
 K:=Maps.string_keyed Tryz.underlying9
 ht:=Tryz.underlying79
 key:=FX.key
 isKey _:=trivial
 inj:=FX.inj
 hz w:=Tryz.zeroValue41 w
 za:=trivial
 hR _ _:=rfl
 hinv:=Cf.hinv
def GU:Bc (List UInt8) Bool where
 k:=9
 e:=4
 t:=68
 kv s:=.string ⟨⟨s⟩⟩
 kl s:=.string s
 ka s:=s.length≤4294967296
 ev b:=.bool b
 ea _:=True
 z:=false
 R v:=match v with | .bool x=>some (.lit (.bool x),[]) | _=>none
 code b:=.lit (.bool b)
 K:=Maps.string_keyed Tryz.underlying9
 ht:=Tryz.underlying68
 key:=FX.key
 isKey _:=trivial
 inj:=FX.inj
 hz w:=Tryz.zeroValue4 w
 za:=trivial
 hR _ _:=rfl
 hinv:=EJ.hinv
def Eg:Bc (List UInt8) n8 where
 k:=9
 e:=57
 t:=70
 kv s:=η s
 kl s:=.string s
 ka s:=s.length≤4294967296
 ev v:=τ v.1 v.2.1 v.2.2
 ea v:=∀ a,v.1=some a→a.spot=none
 z:=(none,0,0)
 R:=slR
 code:=Iz.code
 K:=Maps.string_keyed Tryz.underlying9
 ht:=Tryz.underlying70
 key:=FX.key
 isKey _:=trivial
 inj:=FX.inj
 hz w:=Tryz.zeroValue57 w
 za a h:=by cases h
 hR:=Iz.hR
 hinv:=Iz.hinv
abbrev NH:=Nat×List Nat×Option Addr×Nat
abbrev LP (x:NH):Nat×n8:=(x.1,x.2.2.1,x.2.1.length,x.2.2.2)
abbrev mV (x:NH):Th:=BS x.2.2.1 x.2.2.2 x.2.1
abbrev I1 (x:NH):Nat×List Nat:=(x.1,x.2.1)
abbrev Hv (xs:List NH):Th:=Th.all (xs.map mV)
theorem Aj.rowSpot {α:Type} {b:Nat} {w:World} {L:List Th} {T:TypeId} {n:Nat} {d:α→List Value→Prop} {A:Option Addr} {c:Nat} {l:List α} (h:Aj b w L) (i:Nat) (hi:L[i]?=some (Th.row T n d A c l)):∀ a,A=some a→a.spot=none:=by
 obtain ⟨rs,hr,ho⟩:(Th.row T n d A c l).P w:=h.all i _ hi
 intro a ha
 rcases ho.2 with ⟨e,j⟩ | ⟨g,cap,f,e,_⟩
 ·injection e with e1
  rw [e1] at ha
  cases ha
 injection e with e1
 rw [e1] at ha
 injection ha with ha
 rw [← ha]
theorem wS {w:World} {xs:List NH} (hf:(Hv xs).P w) (i:Nat):∃ A c,(AH (xs.map LP) i).getD (none,0,0)=(A,((AH (xs.map I1) i).getD []).length,c)∧rowsNat w A ((AH (xs.map I1) i).getD []):=by
 induction xs with
 | nil=>exact ⟨none,0,rfl,.inl rfl⟩
 | cons x xs ih=>
  rw [List.map_cons,List.map_cons,AH,AH]
  by_cases hx:x.1=i
  ·rw [if_pos hx,if_pos hx]
   have d:(mV x).P w:=hf _ (by simp)
   have H:Aj 0 w [mV x]:=⟨Nat.zero_le _,fun j t ht=>by
     cases j with
     | zero=>obtain rfl:=Option.some.inj ht; exact d
     | succ j=>simp at ht,fun j t ht k e=>by
     cases j with
     | zero=>
      obtain rfl:=Option.some.inj ht
      obtain ⟨rs,hr,ho⟩:=d
      have a:x.2.2.1=θ k:=e
      exact ⟨Nat.zero_le _,(Dj ho (g:=k) (by rw [a]; rfl)).2⟩
     | succ j=>simp at ht,fun j k s t hs ht b=>by
     cases j with
     | zero=>cases k with
      | zero=>exact absurd rfl b
      | succ k=>simp at ht
     | succ j=>simp at hs⟩
   exact ⟨x.2.2.1,x.2.2.2,rfl,H.rowsNat 0 rfl⟩
  rw [if_neg hx,if_neg hx]
  exact ih fun u hu=>hf u (by simp at hu ⊢; exact .inr hu)
end
end Go.Proofs.YtkjbdagicjbjjaaGreat

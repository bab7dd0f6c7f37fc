/- Contracts of functions, part 11. -/
import Derived.Test.YtkpemkkbjfbmaaaGreatMc10
import Derived.Test.YtkpemkkbjfbmaaaGreatMc03
import Derived.Sort.OwnSortedInts
import Derived.Lib.RowBridge
set_option linter.all false
namespace Go.Proofs.YtkpemkkbjfbmaaaGreat
open List
noncomputable section
open Go.RowKit
set_option maxRecDepth 100000
set_option maxHeartbeats 1000000
abbrev F7 (n:Nat):List Value:=[J (n:Int)]
abbrev wY (p:Int×Int):List Value:=[J p.1,J p.2]
abbrev rowsNat:=Cn 1 F7
abbrev Bc (A:Option Addr) (c:Nat) (l:List Nat):Th:=Th.row 3 1 (λe r=>r=F7 e) A c l
abbrev Bo (A:Option Addr) (c:Nat) (l:List (List UInt8)):Th:=Th.row 9 1 (λe r=>r=FG e) A c l
abbrev JR (A:Option Addr) (c:Nat) (l:List (Int×Int)):Th:=Th.row 82 2 (λe r=>r=wY e) A c l
abbrev Fu (w:World) (A:Option Addr) (c:Nat) (l:List Ex):Th:=Th.row 70 10 (DD Cg w) A c l
abbrev C7 (w:World) (A:Option Addr) (c:Nat) (l:List Df):Th:=Th.row 72 21 (Ff Cg w) A c l
theorem XD {w:World}:∀ {l:List Ex} {rs:List (List Value)},Dh (DD Cg w) l rs->Fb Cg w l rs
 | [],[],_=>by unfold Fb;rfl
 | [],_::_,h=>h.elim
 | _::_,[],h=>h.elim
 | _::_,_::_,h=>by unfold Fb;exact⟨_,_,rfl,h.1,XD h.2⟩
theorem XE {w:World}:∀ {l:List Df} {rs:List (List Value)},Dh (Ff Cg w) l rs->FB Cg w l rs
 | [],[],_=>by unfold FB;rfl
 | [],_::_,h=>h.elim
 | _::_,[],h=>h.elim
 | _::_,_::_,h=>by unfold FB;exact⟨_,_,rfl,h.1,XE h.2⟩
theorem Ro {w:World} {e:Ex} {A:Option Addr} {c:Nat} (h:rowsEx w A e.ks):DD Cg w e (Ad e A c):=by
 obtain⟨ks,a,h2⟩:=h
 cases e with
 | mk a1 a2 a3 a4 a5 a6 a7 a8 a9 kids=>
  unfold DD;exact⟨A,c,ks,rfl,a,h2⟩
theorem Zh {w:World} {e:Ex} {r:List Value} (h:DD Cg w e r):r.length=10:=by
 cases e with
 | mk a1 a2 a3 a4 a5 a6 a7 a8 a9 kids=>
  unfold DD at h;obtain⟨A,c,ks,rfl,_⟩:=h;rfl
theorem my {w:World} {e:Ex} {r:List Value} (h:DD Cg w e r):∃A c,r=Ad e A c/\rowsEx w A e.ks:=by
 cases e with
 | mk a1 a2 a3 a4 a5 a6 a7 a8 a9 kids=>
  unfold DD at h;obtain⟨A,c,ks,rfl,a,h2⟩:=h;exact⟨A,c,rfl,ks,a,h2⟩
theorem LV {w:World} {d:Df} {b:Option Addr} {e:Nat} {a:Option Addr} {c:Nat} (f:Dl w b d.ents) (h2:rowsEx w a d.body.ks):Ff Cg w d (CL d b e a c):=
 ⟨b,e,Ad d.body a c,Ro h2,f,rfl⟩
theorem MB {α:Type} {a:α->List Value->Prop}:∀ {l:List α} {rs:List (List Value)} {i:Nat} {e:α},Dh a l rs->l[i]?=some e->∃r,rs[i]?=some r/\a e r
 | [],_,_,_,_,hi=>by simp at hi
 | _::_,[],_,_,h,_=>h.elim
 | _::_,r::_,0,_,h,hi=>by simp at hi;subst hi;exact⟨r,rfl,h.1⟩
 | _::_,_::_,i+1,_,h,hi=>by simpa using MB h.2 (by simpa using hi)
section
variable {b:Nat} {w w0:World} {L:List Th} {A:Option Addr} {c:Nat}
theorem AY.rowAt {α:Type} {T:TypeId} {n:Nat} {a:α->List Value->Prop} {l:List α} (h:AY b w L) (i:Nat) (hi:L[i]?=some (Th.row T n a A c l)) (e:0<l.length):∃g,A=θ g/\g<(U w):=by
 obtain⟨rs,hr,ho⟩:(Th.row T n a A c l).P w:=h.all i _ hi;rcases ho.2 with⟨d,j⟩ | ⟨g,cap,f,d,_,hg,_⟩
 ·omega
 cases d
 exact⟨g,rfl,MJ hg⟩
theorem AY.rowsNat {l:List Nat} (h:AY b w L) (i:Nat) (hi:L[i]?=some (Bc A c l)):rowsNat w A l:=h.rowsF (λ_=>rfl) i hi
theorem AY.rowsStr {l:List (List UInt8)} (h:AY b w L) (i:Nat) (hi:L[i]?=some (Bo A c l)):rowsStr w A l:=h.rowsF (λ_=>rfl) i hi
theorem AY.rowsEx {l:List Ex} (h:AY b w L) (B:Below (U w0) w0 w) (i:Nat) (hi:L[i]?=some (Fu w0 A c l)):rowsEx w A l:=by obtain⟨rs,a,h2⟩:=h.rows (λ_ _=>Zh) i hi;exact⟨rs,(XD a).below B,h2⟩
theorem AY.rowsDf {l:List Df} (h:AY b w L) (B:Below (U w0) w0 w) (i:Nat) (hi:L[i]?=some (C7 w0 A c l)):rowsDf w A l:=by obtain⟨rs,a,h2⟩:=h.rows (λ_ _ hd=>hd.len) i hi;exact⟨rs,(XE a).below B,h2⟩
theorem AY.cells {α:Type} {T:TypeId} {n:Nat} {a:α->List Value->Prop} {g off:Nat} {l:List α} (hn:∀e r,a e r->r.length=n) (h:AY b w L) (i:Nat) (hi:L[i]?=some (Th.row T n a (some ⟨g,off,none⟩) c l)) {k:Nat} {e:α} (he:l[k]?=some e):∃r,a e r/\w.rangeAt g (off+k*n) r:=by
 obtain⟨rs,j,h2⟩:=h.rows hn i hi;obtain⟨r,hr,f⟩:=MB j he;obtain⟨m,d,hA,_,hc⟩:=Mc h2 hr;obtain⟨rfl,rfl⟩:g=m/\off=d:=by simp only[Option.some.injEq,Addr.mk.injEq]at hA;exact⟨hA.1,hA.2.1⟩
 exact⟨r,f,hc⟩
theorem AY.cellsF {α:Type} {T:TypeId} {n:Nat} {f:α->List Value} {g off:Nat} {l:List α} (hn:∀e,(f e).length=n) (h:AY b w L) (i:Nat) (hi:L[i]?=some (Th.row T n (λe r=>r=f e) (some ⟨g,off,none⟩) c l)) {k:Nat} {e:α} (he:l[k]?=some e):w.rangeAt g (off+k*n) (f e):=by obtain⟨r,a,h2⟩:=h.cells (λe r hr=>hr ▸ hn e) i hi he;exact a ▸ h2
end
section
variable {b:Nat} {w w':World} {X η X' Y' ζ L:List Th}
end
def BH:Op->Bool
 | .call ⟨.builtin .append,_,_⟩=>true
 | _=>false
attribute [local irreducible] BI BQ AD AE AG Au Ab AO A8 Bi Ct BX BO At Fr
def C0 (ds:List (Df)) (p1:Int):List (Df)->Nat->List Nat->List Nat
 | [],i0,a0_0=>a0_0
 | e0::tl,i0,a0_0=>cond (cond (cond (e0.kind==1) (true) (e0.kind==5)) (true) (cond (decide (e0.frm<=p1)) (!(Eb ds p1 i0)) (false))) (C0 ds p1 tl (i0+1) (a0_0++[i0])) (C0 ds p1 tl (i0+1) a0_0)
theorem Sm {ds:List (Df)} {p1:Int} {b:Nat} {a:List Nat}:C0 ds p1 [] b a=(a):=by rw[C0]
theorem R9 {ds:List (Df)} {p1:Int} {b:List Nat} {es:List (Df)} (a:Nat) (c:Df) (hi:es[a]?=some c):C0 ds p1 (es.drop a) a b=(cond (cond (cond (c.kind==1) (true) (c.kind==5)) (true) (cond (decide (c.frm<=p1)) (!(Eb ds p1 a)) (false))) (C0 ds p1 (es.drop (a+1)) (a+1) (b++[a])) (C0 ds p1 (es.drop (a+1)) (a+1) b)):=by have hl:a<es.length:=(List.getElem?_eq_some_iff.1 hi).1;have he:es[a]=c:=(List.getElem?_eq_some_iff.1 hi).2;rw[<-getElem_cons_drop hl,C0]<;>(try rw[he])
def As (ds:List (Df)) (p1:Int):List Nat:=C0 ds p1 ds 0 ([])
noncomputable def n6:Code:=Tryz.f88.body.getD .skip
def fA:=ν ([.code n6])
def e9:=ν (Au fA)
def ABn:=AB (Aq Aa 90 (AE e9)) (AE e9)
def ABm:=Ac 5 (AD (AD ABn))
def pz:=Ω ABm
def ABl:=AB (Aq BH 90 (AE pz)) (AE pz)
def AHr:=Ξ e9
theorem R8 (m:List UInt8) (l:Option Addr) (ds:List (Df)) (a:Nat) (p1:Int) (w:World) (a0:rowsDf w l ds) (b0:ds.length<=4294967296):Calls Tryz.prog 88 ([D [Y m,V l ds.length a],J p1]:List Value).toArray w λe w'=>∃(l0:Option Addr) (k0:Nat),e=.returned (V l0 ((As ds p1).length) k0)/\Below (U w) w w'/\AY (U w) w' [Bc l0 k0 (As ds p1)]:=by
 refine AS (fn:=Tryz.f88) (c:=n6) (n:=43) ?_;have K1:=Wk.start w;refine Ar fA K1 [(0,1)] λw1 K2=>?_;have K3:Wk w w1 [N (U w) [Y m,V l ds.length a] 27] [] []:=K2.pk [0] [];have K4:=K3.addNil 3 1 (λe r=>r=F7 e);have o:(As ds p1)=C0 ds p1 ds 0 ([]):=by unfold As;rfl
 refine AX [(1,J p1),(2,Z (U w)),(4,V none 0 0),(5,V none 0 0),(9,V l ds.length a),(10,J ((ds.length:Int))),(11,J (((0:Nat):Int)))] λE2=>?_;refine Bp (by kernel_rfl) (λE j0=>∃(d:Nat) (b:List Nat) (h:Option Addr) (f:Nat) (E0:Nat->Value),d<=ds.length/\E=BN E0 [(1,J p1),(2,Z (U w)),(4,V none 0 0),(5,V h b.length f),(9,V l ds.length a),(10,J ((ds.length:Int))),(11,J ((d:Int)))]/\(As ds p1)=C0 ds p1 (List.drop d ds) d b/\b.length<=1*d+0/\Wk w j0 [N (U w) [Y m,V l ds.length a] 27] [(Bc h f b)] []) (λE _=>ds.length-AP (E 11)) ⟨0,([]),none,0,E2,Nat.zero_le _,rfl,o,by simp,K4⟩ ?_;clear o;rintro E j0 ⟨d,b,h,f,E0,q1,rfl,o,a1,K5⟩ p;refine AC e9 K5 [] λw4 K6=>?_;refine AH (decide ((d:Int)<(ds.length:Int))) (λc5=>?_) (λc5=>?_)
 ·have q:d<ds.length:=by have:=of_decide_eq_true c5;omega
  obtain⟨z,q0⟩:∃e,ds[d]?=some e:=⟨_,getElem?_eq_getElem q⟩;rw[R9 d z q0]at o;obtain⟨i,j,rfl,r0,t0⟩:=a0.all (by omega);obtain⟨x,t,v,s,m0,c1,b1⟩:=t0 d _ q0;refine Ao Aa ABn K6 [] λw6 K7=>?_;refine Aw (g:=i) (off:=j) (cap:=a) (sz:=21) (k:=d) (len:=ds.length) (some 14) q Tryz.underlying25 ?_;refine Bd 72 i (j+d*21) _ (some 15) (Aj m0 r0 K7.B) ?_;refine Bg 5 ABm [N (U w) [Y m,V (some ⟨i,j,none⟩) ds.length a] 27,N (U w6) ((CL z x t v s)) 72] K7 [(1,0)] λw7 K8=>?_;refine Ap K8 [(1,1,0),(5,1,0),(10,1,6),(14,0,0)] [⟨17,[(30,D [Y m,V (some ⟨i,j,none⟩) ds.length a]),(31,J p1),(32,J ((d:Int)))],I (Eb ds p1 d),((decide (z.frm<=p1)))&&((!(cond (z.kind==1) (true) (z.kind==5)))&&(true))⟩] K8.G (λsp z0=>?_) λw8 E8 K9=>?_
  ·rw[mem_singleton.1 z0];exact AU 118 [.tmp 30,.tmp 31,.tmp 32] [D [Y m,V (some ⟨i,j,none⟩) ds.length a],J p1,J ((d:Int))] (λ_=>by kernel_rfl) λhc u hu=>AR hu (W7 _ _ ds _ p1 d u (a0.below (K8.B.trans (hu.mono K8.B.size))) b0 (by omega))
  refine AC pz K9 [] λw9 v0=>?_;refine AH (cond (cond (z.kind==1) (true) (z.kind==5)) (true) (cond (decide (z.frm<=p1)) (!(Eb ds p1 d)) (false))) (λd0=>?_) (λd0=>?_)
  ·refine Bn BH ABl [N (U w) [Y m,V (some ⟨i,j,none⟩) ds.length a] 27,N (U w6) ((CL z x t v s)) 72,N (U w9) [J ((d:Int))] 3] v0 [] λo1 y=>?_;refine CD y.H (y.ix 0) (y.at 0 rfl) d [J ((d:Int))] rfl (U w9) (y.ent 2 (by kernel_rfl)) (Cr ABl) (by kernel_rfl) (.tmp 37) (.tmp 39) 22 (by kernel_rfl) (by kernel_rfl) (by kernel_rfl) (by decide) (by kernel_rfl) (by kernel_rfl) rfl rfl (by((try simp only[maxLen,length_append,length_cons,length_nil,length_singleton])<;>omega)) λh0 c0 n1 Hn d1=>?_;have i1:=y.put 0 (by simp) d1 Hn;refine AC (Ab fA) i1 [] λx0 h1=>?_;refine AX [(1,J p1),(2,Z (U w)),(4,V none 0 0),(5,V h0 ((b++[d]).length) c0),(9,V (some ⟨i,j,none⟩) ds.length a),(10,J ((ds.length:Int))),(11,J (IntKind.i64.wrap ((d:Int)+1)))] λl1=>?_;have g1:Wk w x0 [N (U w) [Y m,V (some ⟨i,j,none⟩) ds.length a] 27] [(Bc h0 c0 (b++[d]))] []:=h1.pk [0] [0];rw[Bs d (by omega)];refine p _ _ ⟨d+1,(b++[d]),h0,c0,l1,q,rfl,by rw[o,d0]<;>rfl,by((try simp only[maxLen,length_append,length_cons,length_nil,length_singleton])<;>omega),g1⟩ ?_;show ds.length-AP (J ((d+1:Nat):Int))<ds.length-AP (J (d:Int));simp only[AP];omega
  refine AC (Ab fA) v0 [] λw0 f1=>?_;refine AX [(1,J p1),(2,Z (U w)),(4,V none 0 0),(5,V h b.length f),(9,V (some ⟨i,j,none⟩) ds.length a),(10,J ((ds.length:Int))),(11,J (IntKind.i64.wrap ((d:Int)+1)))] λk1=>?_;have e1:Wk w w0 [N (U w) [Y m,V (some ⟨i,j,none⟩) ds.length a] 27] [(Bc h f b)] []:=f1.pk [0] [0];rw[Bs d (by omega)];refine p _ _ ⟨d+1,b,h,f,k1,q,rfl,by rw[o,d0]<;>rfl,by((try simp only[maxLen,length_append,length_cons,length_nil,length_singleton])<;>omega),e1⟩ ?_;show ds.length-AP (J ((d+1:Nat):Int))<ds.length-AP (J (d:Int));simp only[AP];omega
 have p0:d=ds.length:=by have:=of_decide_eq_false c5;omega
 rw[p0,drop_length,Sm]at o;refine AC AHr K6 [] λm1 g0=>?_;have hS:(As ds p1)=b:=by rw[o]<;>rfl
 exact AN g0 (0,0) (V h b.length f) ⟨h,f,by rw[hS]<;>rfl,g0.B,by rw[hS];exact g0.own0 [0] rfl (by decide)⟩
def C9 (ds:List (Df)) (x:Ex):List (Nat)->Int->Bool->Nat×Bool
 | [],a2_0,a2_1=>(0,false)
 | e2::tl,a2_0,a2_1=>cond (cond (cond (cond (x.op==3) (BM (ds.getD e2 default)) (false)) (true) (cond (x.op==4) ((ds.getD e2 default).kind==2) (false))) (decide ((ds.getD e2 default).name=x.nm)) (false)) ((e2,true)) (C9 ds x tl a2_0 a2_1)
theorem RS {ds:List (Df)} {x:Ex} {b:Int} {a:Bool}:C9 ds x [] b a=((0,false)):=by rw[C9]
theorem Pq {ds:List (Df)} {x:Ex} {b:Int} {a:Bool} {es:List (Nat)} (i c:Nat) (hi:es[i]?=some c):C9 ds x (es.drop i) b a=(cond (cond (cond (cond (x.op==3) (BM (κ ds c)) (false)) (true) (cond (x.op==4) ((κ ds c).kind==2) (false))) (decide ((κ ds c).name=x.nm)) (false)) ((c,true)) (C9 ds x (es.drop (i+1)) b a)):=by have hl:i<es.length:=(List.getElem?_eq_some_iff.1 hi).1;have he:es[i]=c:=(List.getElem?_eq_some_iff.1 hi).2;rw[<-getElem_cons_drop hl,C9]<;>(try rw[he])
def Cs (ds:List (Df)) (x:Ex):List (Nat)->Int->Bool->Nat×Bool
 | [],a1_0,a1_1=>(0,false)
 | e1::tl,a1_0,a1_1=>cond (cond (cond (cond (x.op==3) (BM (ds.getD e1 default)) (false)) (true) (cond (x.op==4) ((ds.getD e1 default).kind==2) (false))) (decide ((ds.getD e1 default).name=x.nm)) (false)) ((e1,true)) (Cs ds x tl a1_0 a1_1)
theorem RT {ds:List (Df)} {x:Ex} {b:Int} {a:Bool}:Cs ds x [] b a=((0,false)):=by rw[Cs]
theorem Pr {ds:List (Df)} {x:Ex} {b:Int} {a:Bool} {es:List (Nat)} (i c:Nat) (hi:es[i]?=some c):Cs ds x (es.drop i) b a=(cond (cond (cond (cond (x.op==3) (BM (κ ds c)) (false)) (true) (cond (x.op==4) ((κ ds c).kind==2) (false))) (decide ((κ ds c).name=x.nm)) (false)) ((c,true)) (Cs ds x (es.drop (i+1)) b a)):=by have hl:i<es.length:=(List.getElem?_eq_some_iff.1 hi).1;have he:es[i]=c:=(List.getElem?_eq_some_iff.1 hi).2;rw[<-getElem_cons_drop hl,Cs]<;>(try rw[he])
def Cl (ds:List (Df)) (act:List (Nat)) (x:Ex):List (Df)->Nat->Int->Bool->Nat×Bool
 | [],i0,a0_0,a0_1=>Cs ds x act a0_0 a0_1
 | e0::tl,i0,a0_0,a0_1=>cond (cond (e0.kind==1) (decide (e0.name=x.nm)) (false)) ((i0,true)) (Cl ds act x tl (i0+1) a0_0 a0_1)
theorem RU {ds:List (Df)} {act:List (Nat)} {x:Ex} {c:Nat} {b:Int} {a:Bool}:Cl ds act x [] c b a=(Cs ds x act b a):=by rw[Cl]
theorem Ps {ds:List (Df)} {act:List (Nat)} {x:Ex} {c:Int} {b:Bool} {es:List (Df)} (a:Nat) (d:Df) (hi:es[a]?=some d):Cl ds act x (es.drop a) a c b=(cond (cond (d.kind==1) (decide (d.name=x.nm)) (false)) ((a,true)) (Cl ds act x (es.drop (a+1)) (a+1) c b)):=by have hl:a<es.length:=(List.getElem?_eq_some_iff.1 hi).1;have he:es[a]=d:=(List.getElem?_eq_some_iff.1 hi).2;rw[<-getElem_cons_drop hl,Cl]<;>(try rw[he])
def Az (ds:List (Df)) (act:List (Nat)) (x:Ex):Nat×Bool:=cond (x.op==3) (Cl ds act x ds 0 0 false) (C9 ds x act 0 false)
noncomputable def nz:Code:=Tryz.f120.body.getD .skip
def pw:=ν ([.code nz])
def pu:=Θ pw
def ew:=ν (Au pu)
def ABh:=AB (Aq Aa 90 (AE ew)) (AE ew)
def ABg:=Ac 5 (AD (AD ABh))
def ABf:=Ω ABg
def AHm:=Θ ABf
def pt:=Ξ ew
def eu:=ν (Au pt)
def pr:=AB (Aq Aa 90 (AE eu)) (AE eu)
def vS:=AB (Aq Aa 90 (AD (AD pr))) (AD (AD pr))
def vQ:=Ac 12 (AD (AD vS))
def vP:=Ac 13 (AO vQ)
def vO:=Ω vP
def AFe:=Θ vO
def AFd:=Ξ eu
def e8:=Ξ pw
def UT:=ν (Au e8)
def ez:=AB (Aq Aa 90 (AE UT)) (AE UT)
def vN:=AB (Aq Aa 90 (AD (AD ez))) (AD (AD ez))
def vM:=Ac 12 (AD (AD vN))
def vL:=Ac 13 (AO vM)
def vK:=Ω vL
def AFc:=Θ vK
def AFb:=Ξ UT
theorem Yq (o:List UInt8) (f:Option Addr) (ds:List (Df)) (a:Nat) (a0:Option Addr) (act:List (Nat)) (t:Nat) (x:Ex) (b:Option Addr) (d:Nat) (w:World) (n1:rowsDf w f ds) (o3:ds.length<=4294967296) (o1:rowsNat w a0 act) (f3:act.length<=4294967296) (z4:rowsEx w b x.ks) (x0:∀i∈act,i<ds.length):Calls Tryz.prog 120 ([D [Y o,V f ds.length a],V a0 act.length t,D ((ω x b d))]:List Value).toArray w λe w'=>e=.returned (.tuple #[J ((((Az ds act x)).1:Int)),I (((Az ds act x)).2)])/\Below (U w) w w':=by
 refine AS (fn:=Tryz.f120) (c:=nz) (n:=75) ?_;have K1:=Wk.start w;refine Ar pw K1 [(1,0)] λw1 K2=>?_;refine AH (x.op==3) (λc2=>?_) (λc2=>?_)
 ·refine AC pu K2 [(0,1)] λw3 K3=>?_;have K4:Wk w w3 [N (U w) [Y o,V f ds.length a] 27,N (U w+1) ((Ad x b d)) 70] [] []:=K3.pk [0,1] [];have j0:(Az ds act x)=Cl ds act x ds 0 0 false:=by unfold Az;rw[c2]<;>rfl
  refine AX [(1,V a0 act.length t),(3,Z (U w)),(5,Z (U w+1)),(6,J 0),(7,I false),(18,V f ds.length a),(19,J ((ds.length:Int))),(20,J (((0:Nat):Int)))] λE4=>?_;refine Bp (by kernel_rfl) (λE h2=>∃(v:Nat) (s:Int) (r:Bool) (E0:Nat->Value),v<=ds.length/\E=BN E0 [(1,V a0 act.length t),(3,Z (U w)),(5,Z (U w+1)),(6,J s),(7,I r),(18,V f ds.length a),(19,J ((ds.length:Int))),(20,J ((v:Int)))]/\(Az ds act x)=Cl ds act x (List.drop v ds) v s r/\Wk w h2 [N (U w) [Y o,V f ds.length a] 27,N (U w+1) ((Ad x b d)) 70] [] []) (λE _=>ds.length-AP (E 20)) ⟨0,0,false,E4,Nat.zero_le _,rfl,j0,K4⟩ ?_;clear j0;rintro E h2 ⟨v,s,r,E0,m6,rfl,j0,K5⟩ m1;refine AC ew K5 [] λw6 K6=>?_;refine AH (decide ((v:Int)<(ds.length:Int))) (λc7=>?_) (λc7=>?_)
  ·have f1:v<ds.length:=by have:=of_decide_eq_true c7;omega
   obtain⟨e0,n2⟩:∃e,ds[v]?=some e:=⟨_,getElem?_eq_getElem f1⟩;rw[Ps v e0 n2]at j0;obtain⟨p,q,rfl,l0,m0⟩:=n1.all (by omega);obtain⟨d2,t1,b2,s1,k0,q3,p3⟩:=m0 v _ n2;refine Ao Aa ABh K6 [] λw8 K7=>?_;refine Aw (g:=p) (off:=q) (cap:=a) (sz:=21) (k:=v) (len:=ds.length) (some 23) f1 Tryz.underlying25 ?_;refine Bd 72 p (q+v*21) _ (some 24) (Aj k0 l0 K7.B) ?_;refine Bg 5 ABg [N (U w) [Y o,V (some ⟨p,q,none⟩) ds.length a] 27,N (U w+1) ((Ad x b d)) 70,N (U w8) ((CL e0 d2 t1 b2 s1)) 72] K7 [(2,0)] λw9 K8=>?_;refine Ap K8 [(1,2,0),(5,2,1),(7,1,6)] [⟨8,[(30,Y (e0.name)),(32,Y (x.nm))],I (decide (e0.name=x.nm)),((e0.kind==1))&&(true)⟩] K8.G (λsp b0=>?_) λg6 x6 K9=>?_
   ·rw[mem_singleton.1 b0];exact BR λ_ E u _=>Iq (T:=9) (T':=9) (x:=.tmp 30) (y:=.tmp 32)
   refine AC ABf K9 [] λf6 e3=>?_;refine AH (cond (e0.kind==1) (decide (e0.name=x.nm)) (false)) (λa2=>?_) (λa2=>?_)
   ·refine AC AHm e3 [] λe6 c3=>?_;have hS:(Az ds act x)=(v,true):=by rw[j0,a2]<;>rfl
    exact AN c3 (0,0) (.tuple #[J ((v:Int)),I true]) ⟨by rw[hS]<;>rfl,c3.B⟩
   refine AC (Ab pu) e3 [] λn3 q4=>?_;refine AX [(1,V a0 act.length t),(3,Z (U w)),(5,Z (U w+1)),(6,J s),(7,I r),(18,V (some ⟨p,q,none⟩) ds.length a),(19,J ((ds.length:Int))),(20,J (IntKind.i64.wrap ((v:Int)+1)))] λx4=>?_;have n4:Wk w n3 [N (U w) [Y o,V (some ⟨p,q,none⟩) ds.length a] 27,N (U w+1) ((Ad x b d)) 70] [] []:=q4.pk [0,1] [];rw[Bs v (by omega)];refine m1 _ _ ⟨v+1,s,r,x4,f1,rfl,by rw[j0,a2]<;>rfl,n4⟩ ?_;show ds.length-AP (J ((v+1:Nat):Int))<ds.length-AP (J (v:Int));simp only[AP];omega
  have m2:v=ds.length:=by have:=of_decide_eq_false c7;omega
  rw[m2,drop_length,RU]at j0;refine AC pt K6 [] λm3 k4=>?_;have h4:Wk w m3 [N (U w) [Y o,V f ds.length a] 27,N (U w+1) ((Ad x b d)) 70] [] []:=k4.pk [0,1] [];have h0:(Az ds act x)=Cs ds x act s r:=by rw[j0]<;>rfl
  refine AX [(3,Z (U w)),(5,Z (U w+1)),(6,J s),(7,I r),(37,V a0 act.length t),(38,J ((act.length:Int))),(39,J (((0:Nat):Int)))] λw4=>?_;refine Bp (by kernel_rfl) (λE g2=>∃(i1:Nat) (t0:Int) (r0:Bool) (E0:Nat->Value),i1<=act.length/\E=BN E0 [(3,Z (U w)),(5,Z (U w+1)),(6,J t0),(7,I r0),(37,V a0 act.length t),(38,J ((act.length:Int))),(39,J ((i1:Int)))]/\(Az ds act x)=Cs ds x (List.drop i1 act) t0 r0/\Wk w g2 [N (U w) [Y o,V f ds.length a] 27,N (U w+1) ((Ad x b d)) 70] [] []) (λE _=>act.length-AP (E 39)) ⟨0,s,r,w4,Nat.zero_le _,rfl,h0,h4⟩ ?_;clear h0;rintro E g2 ⟨i1,t0,r0,E0,k6,rfl,h0,g4⟩ l1;refine AC eu g4 [] λc6 b3=>?_;refine AH (decide ((i1:Int)<(act.length:Int))) (λz1=>?_) (λz1=>?_)
  ·have d1:i1<act.length:=by have:=of_decide_eq_true z1;omega
   obtain⟨e1,h1⟩:∃e,act[i1]?=some e:=⟨_,getElem?_eq_getElem d1⟩;rw[Pr i1 e1 h1]at h0;obtain⟨p,q,rfl,l0,m0⟩:=o1.all (by omega);have k0:=m0 i1 _ h1;refine Ao Aa pr b3 [] λb6 a3=>?_;refine Aw (g:=p) (off:=q) (cap:=t) (sz:=1) (k:=i1) (len:=act.length) (some 41) d1 Tryz.underlying22 ?_;refine EF 3 p (q+i1*1) (J ((e1:Int))) (some 42) (by simpa using Aj k0 l0 a3.B 0 _ rfl) ?_;obtain⟨c0,d0,rfl,p1,q1⟩:=n1.all (Nat.lt_of_le_of_lt (Nat.zero_le _) (x0 _ (mem_of_getElem? h1)));have r1:ds[e1]?=some (κ ds e1):=getD_some default (x0 _ (mem_of_getElem? h1));obtain⟨m,j,l,h,b1,w0,v0⟩:=q1 e1 _ r1;refine Ao Aa vS a3 [(0,1)] λl3 z2=>?_;refine Aw (g:=c0) (off:=d0) (cap:=a) (sz:=21) (k:=e1) (len:=ds.length) (some 46) (x0 _ (mem_of_getElem? h1)) Tryz.underlying25 ?_;refine Bd 72 c0 (d0+e1*21) _ (some 47) (Aj b1 p1 z2.B) ?_;refine Bg 12 vQ [N (U w) [Y o,V (some ⟨c0,d0,none⟩) ds.length a] 27,N (U w+1) ((Ad x b d)) 70,N (U l3) ((CL (κ ds e1) m j l h)) 72] z2 [(2,0)] λa6 a1=>?_;refine Ap a1 [(1,1,0),(4,2,0),(9,1,0),(13,2,0)] [⟨5,[(52,D ((ψ (κ ds e1) m j l h)))],I (BM (κ ds e1)),((x.op==3))&&(true)⟩] a1.G (λsp b0=>?_) λz5 v6 e4=>?_
   ·rw[mem_singleton.1 b0];exact AU 89 [.tmp 52] _ (λ_=>by kernel_rfl) λhc u hu=>AR hu (Ij (κ ds e1) m j l h u (w0.below (a1.B.trans (hu.mono a1.B.size))) (v0.below (a1.B.trans (hu.mono a1.B.size))))
   refine Al 13 vP e4 [] λx5 y2=>?_;refine Ap y2 [(3,2,1),(5,1,6)] [⟨6,[(68,Y ((κ ds e1).name)),(70,Y (x.nm))],I (decide ((κ ds e1).name=x.nm)),((cond (cond (x.op==3) (BM (κ ds e1)) (false)) (true) (cond (x.op==4) ((κ ds e1).kind==2) (false))))&&(true)⟩] y2.G (λsp b0=>?_) λw5 u6 c4=>?_
   ·rw[mem_singleton.1 b0];exact BR λ_ E u _=>Iq (T:=9) (T':=9) (x:=.tmp 68) (y:=.tmp 70)
   refine AC vO c4 [] λv5 x2=>?_;refine AH (cond (cond (cond (x.op==3) (BM (κ ds e1)) (false)) (true) (cond (x.op==4) ((κ ds e1).kind==2) (false))) (decide ((κ ds e1).name=x.nm)) (false)) (λy1=>?_) (λy1=>?_)
   ·refine AC AFe x2 [] λu5 w2=>?_;have hS:(Az ds act x)=(e1,true):=by rw[h0,y1]<;>rfl
    exact AN w2 (0,0) (.tuple #[J ((e1:Int)),I true]) ⟨by rw[hS]<;>rfl,w2.B⟩
   refine AC (Ab pt) x2 [] λk3 b4=>?_;refine AX [(3,Z (U w)),(5,Z (U w+1)),(6,J t0),(7,I r0),(37,V (some ⟨p,q,none⟩) act.length t),(38,J ((act.length:Int))),(39,J (IntKind.i64.wrap ((i1:Int)+1)))] λv4=>?_;have a4:Wk w k3 [N (U w) [Y o,V (some ⟨c0,d0,none⟩) ds.length a] 27,N (U w+1) ((Ad x b d)) 70] [] []:=b4.pk [0,1] [];rw[Bs i1 (by omega)];refine l1 _ _ ⟨i1+1,t0,r0,v4,d1,rfl,by rw[h0,y1]<;>rfl,a4⟩ ?_;show act.length-AP (J ((i1+1:Nat):Int))<act.length-AP (J (i1:Int));simp only[AP];omega
  have l2:i1=act.length:=by have:=of_decide_eq_false z1;omega
  rw[l2,drop_length,RT]at h0;refine AC AFd b3 [] λt5 v2=>?_;have hS:(Az ds act x)=(0,false):=by rw[h0]<;>rfl
  exact AN v2 (0,0) (.tuple #[J 0,I false]) ⟨by rw[hS]<;>rfl,v2.B⟩
 refine AC e8 K2 [] λi3 z3=>?_;have y3:Wk w i3 [N (U w) [Y o,V f ds.length a] 27,N (U w+1) ((Ad x b d)) 70] [] []:=z3.pk [0,1] [];have g0:(Az ds act x)=C9 ds x act 0 false:=by unfold Az;rw[c2]<;>rfl
 refine AX [(3,Z (U w)),(5,Z (U w+1)),(6,J 0),(7,I false),(37,V a0 act.length t),(38,J ((act.length:Int))),(39,J (((0:Nat):Int)))] λu4=>?_;refine Bp (by kernel_rfl) (λE f2=>∃(i2:Nat) (q0:Int) (p0:Bool) (E0:Nat->Value),i2<=act.length/\E=BN E0 [(3,Z (U w)),(5,Z (U w+1)),(6,J q0),(7,I p0),(37,V a0 act.length t),(38,J ((act.length:Int))),(39,J ((i2:Int)))]/\(Az ds act x)=C9 ds x (List.drop i2 act) q0 p0/\Wk w f2 [N (U w) [Y o,V f ds.length a] 27,N (U w+1) ((Ad x b d)) 70] [] []) (λE _=>act.length-AP (E 39)) ⟨0,0,false,u4,Nat.zero_le _,rfl,g0,y3⟩ ?_;clear g0;rintro E f2 ⟨i2,q0,p0,E0,h6,rfl,g0,x3⟩ k1;refine AC UT x3 [] λq5 u2=>?_;refine AH (decide ((i2:Int)<(act.length:Int))) (λx1=>?_) (λx1=>?_)
 ·have c1:i2<act.length:=by have:=of_decide_eq_true x1;omega
  obtain⟨z,g1⟩:∃e,act[i2]?=some e:=⟨_,getElem?_eq_getElem c1⟩;rw[Pq i2 z g1]at g0;obtain⟨p,q,rfl,l0,m0⟩:=o1.all (by omega);have k0:=m0 i2 _ g1;refine Ao Aa ez u2 [] λk5 t2=>?_;refine Aw (g:=p) (off:=q) (cap:=t) (sz:=1) (k:=i2) (len:=act.length) (some 41) c1 Tryz.underlying22 ?_;refine EF 3 p (q+i2*1) (J ((z:Int))) (some 42) (by simpa using Aj k0 l0 t2.B 0 _ rfl) ?_;obtain⟨c0,d0,rfl,p1,q1⟩:=n1.all (Nat.lt_of_le_of_lt (Nat.zero_le _) (x0 _ (mem_of_getElem? g1)));have r1:ds[z]?=some (κ ds z):=getD_some default (x0 _ (mem_of_getElem? g1));obtain⟨m,j,l,h,b1,w0,v0⟩:=q1 z _ r1;refine Ao Aa vN t2 [(0,1)] λh3 s2=>?_;refine Aw (g:=c0) (off:=d0) (cap:=a) (sz:=21) (k:=z) (len:=ds.length) (some 46) (x0 _ (mem_of_getElem? g1)) Tryz.underlying25 ?_;refine Bd 72 c0 (d0+z*21) _ (some 47) (Aj b1 p1 s2.B) ?_;refine Bg 12 vM [N (U w) [Y o,V (some ⟨c0,d0,none⟩) ds.length a] 27,N (U w+1) ((Ad x b d)) 70,N (U h3) ((CL (κ ds z) m j l h)) 72] s2 [(2,0)] λh5 z0=>?_;refine Ap z0 [(1,1,0),(4,2,0),(9,1,0),(13,2,0)] [⟨5,[(52,D ((ψ (κ ds z) m j l h)))],I (BM (κ ds z)),((x.op==3))&&(true)⟩] z0.G (λsp b0=>?_) λg5 t6 v3=>?_
  ·rw[mem_singleton.1 b0];exact AU 89 [.tmp 52] _ (λ_=>by kernel_rfl) λhc u hu=>AR hu (Ij (κ ds z) m j l h u (w0.below (z0.B.trans (hu.mono z0.B.size))) (v0.below (z0.B.trans (hu.mono z0.B.size))))
  refine Al 13 vL v3 [] λf5 r2=>?_;refine Ap r2 [(3,2,1),(5,1,6)] [⟨6,[(68,Y ((κ ds z).name)),(70,Y (x.nm))],I (decide ((κ ds z).name=x.nm)),((cond (cond (x.op==3) (BM (κ ds z)) (false)) (true) (cond (x.op==4) ((κ ds z).kind==2) (false))))&&(true)⟩] r2.G (λsp b0=>?_) λe5 q6 u3=>?_
  ·rw[mem_singleton.1 b0];exact BR λ_ E u _=>Iq (T:=9) (T':=9) (x:=.tmp 68) (y:=.tmp 70)
  refine AC vK u3 [] λc5 q2=>?_;refine AH (cond (cond (cond (x.op==3) (BM (κ ds z)) (false)) (true) (cond (x.op==4) ((κ ds z).kind==2) (false))) (decide ((κ ds z).name=x.nm)) (false)) (λv1=>?_) (λv1=>?_)
  ·refine AC AFc q2 [] λb5 p2=>?_;have hS:(Az ds act x)=(z,true):=by rw[g0,v1]<;>rfl
   exact AN p2 (0,0) (.tuple #[J ((z:Int)),I true]) ⟨by rw[hS]<;>rfl,p2.B⟩
  refine AC (Ab e8) q2 [] λg3 t3=>?_;refine AX [(3,Z (U w)),(5,Z (U w+1)),(6,J q0),(7,I p0),(37,V (some ⟨p,q,none⟩) act.length t),(38,J ((act.length:Int))),(39,J (IntKind.i64.wrap ((i2:Int)+1)))] λt4=>?_;have r3:Wk w g3 [N (U w) [Y o,V (some ⟨c0,d0,none⟩) ds.length a] 27,N (U w+1) ((Ad x b d)) 70] [] []:=t3.pk [0,1] [];rw[Bs i2 (by omega)];refine k1 _ _ ⟨i2+1,q0,p0,t4,c1,rfl,by rw[g0,v1]<;>rfl,r3⟩ ?_;show act.length-AP (J ((i2+1:Nat):Int))<act.length-AP (J (i2:Int));simp only[AP];omega
 have k2:i2=act.length:=by have:=of_decide_eq_false x1;omega
 rw[k2,drop_length,RS]at g0;refine AC AFb u2 [] λa5 o2=>?_;have hS:(Az ds act x)=(0,false):=by rw[g0]<;>rfl
 exact AN o2 (0,0) (.tuple #[J 0,I false]) ⟨by rw[hS]<;>rfl,o2.B⟩
def Bb (p0a:List UInt8) (ds:List (Df)) (p1:Int):List Nat:=cond (!(Ee p0a ds p1==0)) ([]) ((As ds p1))
noncomputable def n7:Code:=Tryz.f55.body.getD .skip
def ABp:=ν ([.code n7])
def p4:=Ψ ABp
def AHu:=Θ p4
def ABo:=Ξ p4
def AHt:=Ψ ABo
theorem iK (a:List UInt8) (b:Option Addr) (ds:List (Df)) (f:Nat) (p1:Int) (w:World) (g:rowsDf w b ds) (j:ds.length<=4294967296) (hs:a.length<=4294967296) (ht:∀d∈ds,Ii d):Calls Tryz.prog 55 ([D [Y a,V b ds.length f],J p1]:List Value).toArray w λe w'=>∃(l:Option Addr) (k:Nat),e=.returned (V l ((Bb a ds p1).length) k)/\Below (U w) w w'/\AY (U w) w' [Bc l k (Bb a ds p1)]:=by
 refine AS (fn:=Tryz.f55) (c:=n7) (n:=12) ?_;have K1:=Wk.start w;refine An ABp [N (U w) [Y a,V b ds.length f] 27] K1 [(0,0)] λx u=>?_;refine AW u (args:=[D [Y a,V b ds.length f],J p1]) (Rq a _ ds _ p1 x (g.below u.B) j hs ht) λw2 K3=>?_;refine AC p4 K3 [] λw3 t=>?_;refine AH (!(Ee a ds p1==0)) (λo=>?_) (λo=>?_)
 ·have K5:=t.addNil 3 1 (λe r=>r=F7 e);refine AC AHu K5 [] λw5 q=>?_;have m:(Bb a ds p1)=[]:=by unfold Bb;rw[o]<;>rfl
  exact AN q (0,0) (V none 0 0) ⟨none,0,by rw[m]<;>rfl,q.B,by rw[m];exact q.own0 [0] rfl (by decide)⟩
 refine AC ABo t [(0,0)] λv s=>?_;refine BL (R8 a b ds f p1 v (g.below s.B) (by first | assumption | omega | (simp<;>omega))) λen w8 y=>?_;obtain⟨i,h,rfl,z,Hn⟩:=y;refine⟨_,rfl,?_⟩;have K8:=s.join z Hn;refine AC AHt K8 [] λw9 p=>?_;have m:(Bb a ds p1)=(As ds p1):=by unfold Bb;rw[o]<;>rfl
 exact AN p (0,0) (V i ((As ds p1).length) h) ⟨i,h,by rw[m]<;>rfl,p.B,by rw[m];exact p.own0 [0] rfl (by decide)⟩
mutual
def Gh:Ex->List Ex
 | .mk op a b c d e nm cnt md ks=>cond (cond (op==3) true (op==4)) [.mk op a b c d e nm cnt md ks] []++GH ks
def GH:List Ex->List Ex
 | []=>[]
 | e::es=>Gh e++GH es
end
mutual
def nE:Ex->Nat
 | .mk _ _ _ _ _ _ _ _ _ ks=>1+Hc ks
def Hc:List Ex->Nat
 | []=>0
 | e::es=>nE e+Hc es
end
mutual
theorem XG:∀e:Ex,(Gh e).length<=nE e
 | .mk op a b c d e nm cnt md ks=>by
  rw[Gh,nE,length_append];have h:=TB ks
  cases cond (op==3) true (op==4)<;>simp only[cond_true,cond_false,length_cons,length_nil]<;>omega
theorem TB:∀es:List Ex,(GH es).length<=Hc es
 | []=>Nat.le_refl _
 | e::es=>by rw[GH,Hc,length_append];have a:=XG e;have h2:=TB es;omega
end
theorem qQ (x:Ex):Gh x=cond (cond (x.op==3) true (x.op==4)) [x] []++GH x.ks:=by
 cases x with
 | mk=>rw[Gh];rfl
theorem RQ (x:Ex):nE x=1+Hc x.ks:=by
 cases x with
 | mk=>rw[nE];rfl
theorem Rg {x e:Ex} {i:Nat} (h:x.ks[i]?=some e):e.height<x.height:=by
 cases x with
 | mk a1 a2 a3 a4 a5 a6 a7 a8 a9 ks=>
  have:=Jl (show ks[i]?=some e from h);rw[Ex.height];omega
theorem Kk {α:Type} {l:List α} {i:Nat} {e:α} (h:l[i]?=some e):l.drop i=e::l.drop (i+1):=by have hl:i<l.length:=(List.getElem?_eq_some_iff.1 h).1;rw[<-getElem_cons_drop hl,(List.getElem?_eq_some_iff.1 h).2]
theorem Xr {x:Ex} (h:EB x):x.ks.length<=4294967296:=by
 cases x with
 | mk=>exact h.2.1
def Bm (l:List Ex) (x:Ex):List Ex:=l++Gh x
theorem Mf (l:List Ex) (x:Ex):(Bm l x).length<=l.length+nE x:=by have:=XG x;unfold Bm;rw[length_append];omega
def FX:List (Ex)->List Ex->List Ex
 | [],a1_0=>a1_0
 | e1::tl,a1_0=>FX tl (Bm a1_0 e1)
theorem XH {a:List Ex}:FX [] a=(a):=by rw[FX]
theorem Tb {a:List Ex} {es:List (Ex)} (i:Nat) (b:Ex) (hi:es[i]?=some b):FX (es.drop i) a=(FX (es.drop (i+1)) (Bm a b)):=by have hl:i<es.length:=(List.getElem?_eq_some_iff.1 hi).1;have he:es[i]=b:=(List.getElem?_eq_some_iff.1 hi).2;rw[<-getElem_cons_drop hl,FX]<;>(try rw[he])
def FY:List (Ex)->List Ex->List Ex
 | [],a0_0=>a0_0
 | e0::tl,a0_0=>FY tl (Bm a0_0 e0)
theorem XI {a:List Ex}:FY [] a=(a):=by rw[FY]
theorem Tc {a:List Ex} {es:List (Ex)} (i:Nat) (b:Ex) (hi:es[i]?=some b):FY (es.drop i) a=(FY (es.drop (i+1)) (Bm a b)):=by have hl:i<es.length:=(List.getElem?_eq_some_iff.1 hi).1;have he:es[i]=b:=(List.getElem?_eq_some_iff.1 hi).2;rw[<-getElem_cons_drop hl,FY]<;>(try rw[he])
def Id (l:List Ex) (x:Ex):List Ex:=cond (cond (x.op==3) (true) (x.op==4)) (FY x.ks (l++[x])) (FX x.ks l)
noncomputable def nX:Code:=Tryz.f119.body.getD .skip
def AAg:=Ac 1 ([.code nX])
def dl:=Ω AAg
def pT:=AB (Aq BH 90 (AE dl)) (AE dl)
def pS:=Ψ pT
def dk:=ν (Au pS)
def AAf:=AB (Aq Aa 90 (AE dk)) (AE dk)
def AHP:=ν (AD (AD AAf))
def AHO:=Ξ dk
def pR:=Ξ dl
def dj:=ν (Au pR)
def tW:=AB (Aq Aa 90 (AE dj)) (AE dj)
def AEt:=ν (AD (AD tW))
def AEs:=Ξ dj
theorem mA (L:List Th) (r:Option Addr) (l:List Ex) (q:Nat) (x:Ex) (b:Option Addr) (a:Nat) (w we:World) (v0:rowsEx w b x.ks) (k1:EB x) (l1:∀(L:List Th) (r:Option Addr) (l:List Ex) (q:Nat) (x':Ex) (b:Option Addr) (a:Nat) (w we:World),rowsEx w b x'.ks->x'∈x.ks->l.length+nE x'<=100000000->Below (U w) w we->AY (U w) we ([Fu w r q l]++L)->Calls Tryz.prog 119 ([V r l.length q,D (Ad x' b a)]:List Value).toArray we λe w'=>∃(j0:Option Addr) (h0:Nat),e=.returned (V j0 (Bm l x').length h0)/\Below (U w) w w'/\AY (U w) w' ([Fu w j0 h0 (Bm l x')]++L)) (hb:l.length+nE x<=100000000) (B:Below (U w) w we) (H:AY (U w) we ([(Fu w r q l)]++L)):Calls Tryz.prog 119 ([V r l.length q,D ((ω x b a))]:List Value).toArray we λe w'=>∃(j0:Option Addr) (h0:Nat),e=.returned (V j0 ((Id l x).length) h0)/\Below (U w) w w'/\AY (U w) w' ([Fu w j0 h0 (Id l x)]++L):=by
 refine AS (fn:=Tryz.f119) (c:=nX) (n:=31) ?_;have K1:Wk w we [] [(Fu w r q l)] L:=⟨B,H⟩;clear B H;have a3:=Xr k1;refine Bg 1 AAg [N (U we) ((Ad x b a)) 70] K1 [] λw1 K2=>?_;refine Ap K2 [(1,0,0),(5,0,0)] [] K2.G (λsp d2=>by cases d2) λw2 E2 K3=>?_;refine AC dl K3 [] λw3 K4=>?_;refine AH (cond (x.op==3) (true) (x.op==4)) (λc4=>?_) (λc4=>?_)
 ·refine Bn BH pT [N (U we) ((Ad x b a)) 70,N (U w3) ((Ad x b a)) 70] K4 [(0,0)] λw5 K5=>?_;refine CD K5.H (K5.ix 0) (K5.at 0 rfl) x (ω x b a) (Ro v0) (U w3) (K5.ent 1 (by kernel_rfl)) (Cr pT) (by kernel_rfl) (.tmp 15) (.tmp 17) 68 (by kernel_rfl) (by kernel_rfl) (by kernel_rfl) (by decide) (by kernel_rfl) (by kernel_rfl) rfl rfl (by((try simp only[maxLen,length_append,length_cons,length_nil,length_singleton])<;>omega)) λA6 c6 w6 Hn b6=>?_;have K6:=K5.put 0 (by simp) b6 Hn;refine AC pS K6 [(0,9)] λw7 K7=>?_;have K8:Wk w w7 [] [(Fu w A6 c6 (l++[x]))] L:=K7.pk [] [0];have v:(Id l x)=FY x.ks (l++[x]):=by unfold Id;rw[c4]<;>rfl
  refine AX [(0,V A6 ((l++[x]).length) c6),(4,V none 0 0),(20,V b x.ks.length a),(21,J ((x.ks.length:Int))),(22,J (((0:Nat):Int)))] λE8=>?_;refine Bp (by kernel_rfl) (λE h1=>∃(t:Nat) (f:List Ex) (m:Option Addr) (j:Nat) (E0:Nat->Value),t<=x.ks.length/\E=BN E0 [(0,V m f.length j),(4,V none 0 0),(20,V b x.ks.length a),(21,J ((x.ks.length:Int))),(22,J ((t:Int)))]/\(Id l x)=FY (List.drop t x.ks) f/\f.length+Hc (List.drop t x.ks)<=100000000/\Wk w h1 [] [(Fu w m j f)] L) (λE _=>x.ks.length-AP (E 22)) ⟨0,(l++[x]),A6,c6,E8,Nat.zero_le _,rfl,v,by(rw[RQ]at hb;simp only[drop_zero,length_append,length_singleton];omega),K8⟩ ?_;clear v;rintro E h1 ⟨t,f,m,j,E0,c3,rfl,v,a1,K9⟩ t0;refine AC dk K9 [] λz2 t1=>?_;refine AH (decide ((t:Int)<(x.ks.length:Int))) (λc1=>?_) (λc1=>?_)
  ·have m0:t<x.ks.length:=by have:=of_decide_eq_true c1;omega
   obtain⟨e0,q0⟩:∃e,x.ks[t]?=some e:=⟨_,getElem?_eq_getElem m0⟩;rw[Tc t e0 q0]at v;obtain⟨z,a0,rfl,w0,x0⟩:=v0.all0 (by omega);obtain⟨p,o,k0,y⟩:=x0 t _ q0;refine Ao Aa AAf t1 [] λc2 s1=>?_;refine Aw (g:=z) (off:=a0) (cap:=a) (sz:=10) (k:=t) (len:=x.ks.length) (some 24) m0 Tryz.underlying68 ?_;refine Bd 70 z (a0+t*10) _ (some 25) (Aj k0 w0 s1.B) ?_;refine An AHP [N (U c2) ((Ad e0 p o)) 70] s1 [(0,0),(0,0)] λb2 r1=>?_;have Kf:=(r1.pickL (L':=[(Fu w m j f)]++[]) [0] rfl (by decide)).front;refine BL (l1 _ m f j e0 p o w b2 y (mem_of_getElem? q0) (by rw[Kk q0]at a1;simp only[Hc]at a1;omega) r1.B Kf) λen y2 hh=>?_;obtain⟨g0,c0,rfl,f2,Hn⟩:=hh;refine⟨_,rfl,?_⟩;have p2:=Wk.unfront f2 Hn;refine AC (Ab pS) p2 [] λa2 o2=>?_;refine AX [(0,V g0 ((Bm f e0).length) c0),(4,V none 0 0),(20,V (some ⟨z,a0,none⟩) x.ks.length a),(21,J ((x.ks.length:Int))),(22,J (IntKind.i64.wrap ((t:Int)+1)))] λs2=>?_;have n2:Wk w a2 [] [(Fu w g0 c0 (Bm f e0))] L:=o2.pk [] [0];rw[Bs t (by omega)];refine t0 _ _ ⟨t+1,(Bm f e0),g0,c0,s2,m0,rfl,by rw[v]<;>rfl,by(rw[Kk q0]at a1;simp only[Hc]at a1;have:=Mf f e0;omega),n2⟩ ?_;show x.ks.length-AP (J ((t+1:Nat):Int))<x.ks.length-AP (J (t:Int));simp only[AP];omega
  have n1:t=x.ks.length:=by have:=of_decide_eq_false c1;omega
  rw[n1,drop_length,XI]at v;refine AC AHO t1 [] λx2 f1=>?_;have hS:(Id l x)=f:=by rw[v]<;>rfl
  exact AN f1 (0,0) (V m f.length j) ⟨m,j,by rw[hS]<;>rfl,f1.B,by rw[hS];exact f1.own [0] rfl (by decide)⟩
 refine AC pR K4 [(0,9)] λz1 m2=>?_;have l2:Wk w z1 [] [(Fu w r q l)] L:=m2.pk [] [0];have u:(Id l x)=FX x.ks l:=by unfold Id;rw[c4]<;>rfl
 refine AX [(0,V r l.length q),(4,V none 0 0),(20,V b x.ks.length a),(21,J ((x.ks.length:Int))),(22,J (((0:Nat):Int)))] λr2=>?_;refine Bp (by kernel_rfl) (λE g1=>∃(s:Nat) (d:List Ex) (i:Option Addr) (h:Nat) (E0:Nat->Value),s<=x.ks.length/\E=BN E0 [(0,V i d.length h),(4,V none 0 0),(20,V b x.ks.length a),(21,J ((x.ks.length:Int))),(22,J ((s:Int)))]/\(Id l x)=FX (List.drop s x.ks) d/\d.length+Hc (List.drop s x.ks)<=100000000/\Wk w g1 [] [(Fu w i h d)] L) (λE _=>x.ks.length-AP (E 22)) ⟨0,l,r,q,r2,Nat.zero_le _,rfl,u,by(rw[RQ]at hb;simp only[drop_zero,length_append,length_singleton];omega),l2⟩ ?_;clear u;rintro E g1 ⟨s,d,i,h,E0,b3,rfl,u,z0,k2⟩ r0;refine AC dj k2 [] λv2 q1=>?_;refine AH (decide ((s:Int)<(x.ks.length:Int))) (λb1=>?_) (λb1=>?_)
 ·have l0:s<x.ks.length:=by have:=of_decide_eq_true b1;omega
  obtain⟨e1,p0⟩:∃e,x.ks[s]?=some e:=⟨_,getElem?_eq_getElem l0⟩;rw[Tb s e1 p0]at u;obtain⟨z,a0,rfl,w0,x0⟩:=v0.all0 (by omega);obtain⟨p,o,k0,y⟩:=x0 s _ p0;refine Ao Aa tW q1 [] λy1 p1=>?_;refine Aw (g:=z) (off:=a0) (cap:=a) (sz:=10) (k:=s) (len:=x.ks.length) (some 24) l0 Tryz.underlying68 ?_;refine Bd 70 z (a0+s*10) _ (some 25) (Aj k0 w0 p1.B) ?_;refine An AEt [N (U y1) ((Ad e1 p o)) 70] p1 [(0,0),(0,0)] λx1 o1=>?_;have Kf:=(o1.pickL (L':=[(Fu w i h d)]++[]) [0] rfl (by decide)).front;refine BL (l1 _ i d h e1 p o w x1 y (mem_of_getElem? p0) (by rw[Kk p0]at z0;simp only[Hc]at z0;omega) o1.B Kf) λen u2 hh=>?_;obtain⟨d0,b0,rfl,e2,Hn⟩:=hh;refine⟨_,rfl,?_⟩;have i2:=Wk.unfront e2 Hn;refine AC (Ab pR) i2 [] λv1 h2=>?_;refine AX [(0,V d0 ((Bm d e1).length) b0),(4,V none 0 0),(20,V (some ⟨z,a0,none⟩) x.ks.length a),(21,J ((x.ks.length:Int))),(22,J (IntKind.i64.wrap ((s:Int)+1)))] λq2=>?_;have g2:Wk w v1 [] [(Fu w d0 b0 (Bm d e1))] L:=h2.pk [] [0];rw[Bs s (by omega)];refine r0 _ _ ⟨s+1,(Bm d e1),d0,b0,q2,l0,rfl,by rw[u]<;>rfl,by(rw[Kk p0]at z0;simp only[Hc]at z0;have:=Mf d e1;omega),g2⟩ ?_;show x.ks.length-AP (J ((s+1:Nat):Int))<x.ks.length-AP (J (s:Int));simp only[AP];omega
 have m1:s=x.ks.length:=by have:=of_decide_eq_false b1;omega
 rw[m1,drop_length,XH]at u;refine AC AEs q1 [] λt2 d1=>?_;have hS:(Id l x)=d:=by rw[u]<;>rfl
 exact AN d1 (0,0) (V i d.length h) ⟨i,h,by rw[hS]<;>rfl,d1.B,by rw[hS];exact d1.own [0] rfl (by decide)⟩
def rD (n:Nat):Prop:=∀(L:List Th) (p0A:Option Addr) (l:List Ex) (p0c:Nat) (x:Ex) (p1A0:Option Addr) (p1c0:Nat) (w we:World),rowsEx w p1A0 x.ks->x.height<=n->EB x->l.length+nE x<=100000000->Below (U w) w we->AY (U w) we ([Fu w p0A p0c l]++L)->Calls Tryz.prog 119 ([V p0A l.length p0c,D (Ad x p1A0 p1c0)]:List Value).toArray we λe w'=>∃(rA0:Option Addr) (rc0:Nat),e=.returned (V rA0 (Bm l x).length rc0)/\Below (U w) w w'/\AY (U w) w' ([Fu w rA0 rc0 (Bm l x)]++L)
theorem TA {x:Ex}:∀(ks a:List Ex),FY ks a=a++GH ks
 | [],a=>by rw[FY,GH,append_nil]
 | e::es,a=>by rw[FY,GH,TA (x:=x) es,Bm,append_assoc]
theorem RE {x:Ex}:∀(ks a:List Ex),FX ks a=a++GH ks
 | [],a=>by rw[FX,GH,append_nil]
 | e::es,a=>by rw[FX,GH,RE (x:=x) es,Bm,append_assoc]
theorem qR (l:List Ex) (x:Ex):Id l x=Bm l x:=by
 unfold Id;rw[TA (x:=x),RE (x:=x),Bm,qQ]
 cases cond (x.op==3) true (x.op==4)<;>simp
theorem XF:∀(n:Nat),rD n
 | 0=>λL e l d x b a w h c g=>by
  cases x with
  | mk=>rw[Ex.height]at g;omega
 | n+1=>λL e l d x b a w h c g f hb B H=>by
  have:=mA L e l d x b a w h c f (λL e l d j b a w h c hm hb B H=>XF n L e l d j b a w h c ?_ ?_ hb B H) hb B H
  ·rwa [qR]at this
  ·obtain⟨i,hi⟩:=mem_iff_getElem?.1 hm;have:=Rg hi;omega
  obtain⟨i,hi⟩:=mem_iff_getElem?.1 hm
  cases x with
  | mk=>exact Kb f.2.2 hi
end
end Go.Proofs.YtkpemkkbjfbmaaaGreat
namespace Go.Proofs.YtkpemkkbjfbmaaaGreat
open List
end Go.Proofs.YtkpemkkbjfbmaaaGreat
namespace Go.Proofs.YtkpemkkbjfbmaaaGreat
open List
noncomputable section
open Go.RowKit
set_option maxRecDepth 100000
set_option maxHeartbeats 1000000
attribute [local irreducible] BI BQ AD AE AG Au Ab AO A8 Bi Ct BX BO At Fr
theorem iB {f:FuncId} {args:Array Value} {w:World} {v:Value} (h:Calls Tryz.prog f args w λe w'=>e=.returned v/\w'=w):Calls Tryz.prog f args w λe w'=>e=.returned v/\Below (U w) w w':=
 h.mono λ_ _ a=>⟨a.1,Kd a.2.symm⟩
def YN:Int:=0
noncomputable def YD:Code:=Tryz.f144.body.getD .skip
def qL:List Item:=(CK (λ_=>false) 400 [false] ([.code YD])).2
def AIG:List Item:=(CK (λ_=>false) 400 [] (AD qL)).2
theorem YM (w:World):Calls Tryz.prog 144 ([.int .u64 0]:List Value).toArray w λe w'=>e=.returned (J (YN))/\Below (U w) w w':=by refine AS (fn:=Tryz.f144) (c:=YD) (n:=8) ?_;have g:=Wk.start w;refine CZ (CK (λ_=>false) 400 [false] ([.code YD])).1 [] qL g λa f=>?_;refine AW f (iB (Tryz.bits_Len64 0 a (by decide) (by decide))) λi d=>?_;refine CZ (CK (λ_=>false) 400 [] (AD qL)).1 [] AIG d λh b=>?_;exact AQ b (0,0) _ (by unfold YN;rfl)
def mj:Unit:=()
noncomputable def X9:Code:=Tryz.f148.body.getD .skip
def AHg:List Item:=(CK (λ_=>false) 400 [false] ([.code X9])).2
theorem gY (w:World):Calls Tryz.prog 148 ([V none 0 0,J 0,J 0]:List Value).toArray w λe w'=>e=.returned (.tuple #[])/\Below (U w) w w':=by
 refine AS (fn:=Tryz.f148) (c:=X9) (n:=49) ?_;have b:=Wk.start w;refine CZ (CK (λ_=>false) 400 [false] ([.code X9])).1 [] AHg b λd a=>?_;have f:(mj)=():=by unfold mj;rfl
 exact AN a (0,0) (.tuple #[]) ⟨rfl,a.B⟩
def mK:Unit:=()
noncomputable def X6:Code:=Tryz.f143.body.getD .skip
def pU:List Item:=(CK (λ_=>false) 400 [true] ([.code X6])).2
def AHQ:List Item:=(CK (λ_=>false) 400 [] (AD pU)).2
theorem gG (w:World):Calls Tryz.prog 143 ([V none 0 0,J 0,J 0,J 0]:List Value).toArray w λe w'=>e=.returned (.tuple #[])/\Below (U w) w w':=by
 refine AS (fn:=Tryz.f143) (c:=X6) (n:=134) ?_;have g:=Wk.start w;refine CZ (CK (λ_=>false) 400 [true] ([.code X6])).1 [] pU g λb f=>?_;refine AW f (gY b) λi d=>?_;refine CZ (CK (λ_=>false) 400 [] (AD pU)).1 [] AHQ d λh a=>?_;have j:(mK)=():=by unfold mK;rfl
 exact AN a (0,0) (.tuple #[]) ⟨rfl,a.B⟩
def ZO:Unit:=()
noncomputable def X4:Code:=Tryz.f121.body.getD .skip
def pP:List Item:=(CK (λ_=>false) 400 [] ([.code X4])).2
def pO:List Item:=(CK (λ_=>false) 400 [] (AD pP)).2
def AHL:List Item:=(CK (λ_=>false) 400 [] (AD pO)).2
theorem Yf (w:World):Calls Tryz.prog 121 ([V none 0 0]:List Value).toArray w λe w'=>e=.returned (.tuple #[])/\Below (U w) w w':=by
 refine AS (fn:=Tryz.f121) (c:=X4) (n:=11) ?_;have j:=Wk.start w;refine CZ (CK (λ_=>false) 400 [] ([.code X4])).1 [] pP j λd i=>?_;refine AW i (YM d) λm h=>?_;refine CZ (CK (λ_=>false) 400 [] (AD pP)).1 [] pO h λb g=>?_;refine AW g (gG b) λl f=>?_;refine CZ (CK (λ_=>false) 400 [] (AD pO)).1 [] AHL f λk a=>?_;have o:(ZO)=():=by unfold ZO;rfl
 exact AN a (0,0) (.tuple #[]) ⟨rfl,a.B⟩
set_option maxHeartbeats 400000
def DZ (l:List Nat):List Int:=l.map Int.ofNat
def Gg (l:List Nat):List Nat:=((DZ l).mergeSort λx y=>decide (x<=y)).map Int.toNat
def FC (l:List Nat):List Nat:=(Lib.compact (DZ l)).map Int.toNat
theorem TM {a:List Int} (h:∀z∈a,0<=z):DZ (a.map Int.toNat)=a:=by unfold DZ;rw[map_map];refine(map_congr_left λz hz=>?_).trans (map_id _);have:=h z hz;simp only[Function.comp_apply,id_eq];exact Int.toNat_of_nonneg this
theorem N6 {l:List Nat}:∀z∈DZ l,0<=z:=λz hz=>by obtain⟨n,_,rfl⟩:=mem_map.1 hz;exact Int.natCast_nonneg n
theorem l5:Gg []=[]:=by unfold Gg DZ;simp
theorem Lc (l:List Nat):(Gg l).length=l.length:=by unfold Gg DZ;rw[length_map,length_mergeSort,length_map]
theorem gD (l:List Nat):DZ (Gg l)=(DZ l).mergeSort λx y=>decide (x<=y):=TM λz hz=>N6 z (mem_mergeSort.1 hz)
theorem Sy {l:List Nat} {n:Nat}:n∈Gg l↔n∈l:=by
 unfold Gg DZ;constructor
 ·intro h;obtain⟨z,hz,rfl⟩:=mem_map.1 h;obtain⟨m,hm,rfl⟩:=mem_map.1 (mem_mergeSort.1 hz);exact hm
 intro h;exact mem_map.2 ⟨Int.ofNat n,mem_mergeSort.2 (mem_map.2 ⟨n,h,rfl⟩),rfl⟩
theorem PM {a:List Int} {z:Int} (h:z∈Lib.compact a):z∈a:=by unfold Lib.compact Lib.compactUpTo at h;obtain⟨i,hi,rfl⟩:=mem_map.1 h;have hl:i<a.length:=mem_range.1 (mem_filter.1 hi).1;rw[getElem!_pos _ i (by simpa using hl)];simp
theorem Tr (l:List Nat):DZ (FC l)=Lib.compact (DZ l):=TM λz hz=>N6 z (PM hz)
theorem OD {l:List Nat} {n:Nat} (h:n∈FC l):n∈l:=by obtain⟨z,hz,rfl⟩:=mem_map.1 h;obtain⟨m,hm,rfl⟩:=mem_map.1 (PM hz);exact hm
theorem OE (l:List Nat):(FC l).length<=l.length:=by unfold FC;rw[length_map];exact Nat.le_trans (Lib.compact_length_le _) (by unfold DZ;rw[length_map];exact Nat.le_refl _)
theorem Lt (l:List Nat):(l.map F7).flatten=(DZ l).map (Value.int .i64):=by
 induction l with
 | nil=>rfl
 | cons n l ih=>rw[map_cons,flatten_cons,ih];rfl
section
variable {b:Nat} {w we:World} {L:List Th} {g c:Nat} {l:List Nat}
theorem LF (H:AY b we ([Bc (θ g) c l]++L)):∃a,we.heap[g]?=some (.cells a 3 (0,0))/\l.length<=c/\c<=maxLen/\a.size=c*1/\a.toList.take l.length=(DZ l).map (Value.int .i64):=by
 obtain⟨rs,hr,ho⟩:(Bc (θ g) c l).P we:=H.all 0 _ rfl;rcases ho.2 with⟨d,_⟩ | ⟨e,cap,a,d,_,hg,hc,hm,hs,ht⟩
 ·cases d
 cases d
 rw[JW hr,Lt,Nat.mul_one]at ht;exact⟨a,hg,hc,hm,hs,ht⟩
theorem RP (H:AY b we ([Bc (θ g) c l]++L)) {n:Nat} {os:Array Obj} {ts:List Int} (hl:ts.length=l.length) (d:List Nat) (m:ts.take d.length=DZ d) (i:d.length<=l.length) :
  Below b we (Go.Sort.grow (Go.Sort.putRow (Value.int .i64) (Go.Sort.ahead we n) g 0 ts.toArray) os)/\AY b (Go.Sort.grow (Go.Sort.putRow (Value.int .i64) (Go.Sort.ahead we n) g 0 ts.toArray) os) ([Bc (θ g) c d]++L):=by
 obtain⟨j,hb,p,h2,o,t⟩:=LF H;have hg:=grownBy_sortedI (w:=we) (g:=g) (n:=n) (os:=os) ts.toArray;have h:=H.lo 0 _ rfl g rfl;refine⟨⟨hg.os,hg.tape,hg.output,hg.size,λk f=>hg.block k (Nat.lt_of_lt_of_le f H.base) λhe=>by have:=Option.some.inj he;omega⟩,?_⟩;refine H.set 0 (s:=Bc (θ g) c l) rfl hg.size ⟨d.map F7,?_,?_,?_⟩ (λk f=>⟨?_,.inl f⟩) (λk f hf=>hg.block k f λhe=>hf (by obtain rfl:=Option.some.inj he;rfl))
 ·have:∀q:List Nat,Dh (λe r=>r=F7 e) q (q.map F7):=λq=>by
   induction q with
   | nil=>trivial
   | cons a q ih=>exact⟨rfl,ih⟩
  exact this d
 ·rw[Lt];unfold DZ;simp
 ·refine .inr ⟨g,c,_,rfl,Nat.zero_le _,heap_sortedI _ hb,Nat.le_trans i p,h2,by simp[Go.Sort.putCells,o],?_⟩;rw[Nat.mul_one,Lt,<-m,map_take,<-take_putCellsI j ts (by omega),take_take,Nat.min_eq_left (by omega)]
 obtain rfl:g=k:=by have:=Option.some.inj f;injection this
 exact Nat.lt_of_lt_of_le h.2 hg.size
theorem qO (L:List Th) (c:Option Addr) (l:List Nat) (a:Nat) (w d:World) (k:l.length<=4294967296) (B:Below (U w) w d) (H:AY (U w) d ([Bc c a l]++L)):Calls Tryz.prog 121 ([V c l.length a]:List Value).toArray d λe w'=>e=.returned (.tuple #[])/\Below (U w) w w'/\AY (U w) w' ([Bc c a (Gg l)]++L):=by
 obtain⟨rs,hr,ho⟩:(Bc c a l).P d:=H.all 0 _ rfl;rcases ho.2 with⟨f,p⟩ | ⟨g,cap,i,f,_⟩
 ·obtain rfl:l=[]:=eq_nil_of_length_eq_zero p;obtain⟨rfl,rfl⟩:c=none/\a=0:=by injection f with e1 e2 e3;exact⟨e1,e3⟩
  refine(Yf d).mono λe w' h=>?_;obtain⟨rfl,b⟩:=h;exact⟨rfl,B.trans (b.mono B.size),by rw[l5];exact H.below b⟩
 obtain⟨rfl,rfl⟩:c=θ g/\a=cap:=by injection f with e1 e2 e3;exact⟨e1,e3⟩
 obtain⟨i,hb,f,h2,q,o⟩:=LF H;have m:=holds_of_blockI (ss:=DZ l) hb (by unfold DZ at *;rw[length_map];exact o);have:=Tryz.slices_Sort_int g 0 a (DZ l) d m (MJ hb) (by unfold DZ;rw[length_map];omega);rw[show(DZ l).length=l.length by unfold DZ;rw[length_map]]at this;refine this.mono λe w' h=>?_;obtain⟨rfl,n,os,rfl⟩:=h;have j:=RP H (n:=n) (os:=os) (ts:=(DZ l).mergeSort λx y=>decide (x<=y)) (by unfold DZ;rw[length_mergeSort,length_map]) (Gg l) (by rw[<-gD];exact take_of_length_le (by unfold DZ;rw[length_map];exact Nat.le_refl _)) (by rw[Lc];exact Nat.le_refl _);exact⟨rfl,B.trans j.1,j.2⟩
theorem Y5 (L:List Th) (b:Option Addr) (l:List Nat) (a:Nat) (w c:World) {m:Nat} (r:l.length<=4294967296) (hm:l.length=m) (B:Below (U w) w c) (H:AY (U w) c ([Bc b a l]++L)):Calls Tryz.prog 122 ([V b m a]:List Value).toArray c λe w'=>∃(f:Option Addr) (d:Nat),e=.returned (V f (FC l).length d)/\Below (U w) w w'/\AY (U w) w' ([Bc f d (FC l)]++L):=by
 subst hm;obtain⟨rs,hr,ho⟩:(Bc b a l).P c:=H.all 0 _ rfl;rcases ho.2 with⟨j,v⟩ | ⟨g,cap,p,j,_⟩
 ·obtain rfl:l=[]:=eq_nil_of_length_eq_zero v;obtain⟨rfl,rfl⟩:b=none/\a=0:=by injection j with e1 e2 e3;exact⟨e1,e3⟩
  refine(Tryz.slices_Compact_int_empty none 0 c).mono λe w' o=>?_;obtain⟨rfl,rfl⟩:=o;exact⟨none,0,rfl,B,H⟩
 obtain⟨rfl,rfl⟩:b=θ g/\a=cap:=by injection j with e1 e2 e3;exact⟨e1,e3⟩
 obtain⟨p,hb,j,h2,x,u⟩:=LF H;have h:(DZ l).length=l.length:=by unfold DZ;rw[length_map]
 have t:=holds_of_blockI (ss:=DZ l) hb (by rw[h];exact u);have:=Tryz.slices_Compact_int g 0 a (DZ l) c t (by omega) (by omega);rw[h]at this;refine this.mono λe w' o=>?_;obtain⟨rfl,q,rfl⟩:=o;have s:=Lib.compact_length_le (DZ l);have i:(FC l).length=(Lib.compact (DZ l)).length:=by unfold FC;rw[length_map]
 have k:=RP H (n:=q) (os:=#[]) (ts:=Lib.compact (DZ l)++replicate (l.length-(Lib.compact (DZ l)).length) 0) (by rw[length_append,length_replicate];omega) (FC l) (by rw[Tr,i,take_left]) (OE l);rw[Go.Sort.grow_empty]at k;exact⟨θ g,a,by rw[i],B.trans k.1,k.2⟩
end
end
end Go.Proofs.YtkpemkkbjfbmaaaGreat

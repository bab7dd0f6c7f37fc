/- Contracts of functions, part 19. -/
import Derived.Test.YtkpemkkbjfbmaaaGreatMc18
import Derived.Test.YtkpemkkbjfbmaaaGreatMc08
import Derived.Test.YtkpemkkbjfbmaaaGreatMc13
set_option linter.all false
namespace Go.Proofs.YtkpemkkbjfbmaaaGreat
open List
noncomputable section
open Go.RowKit
set_option maxRecDepth 100000
set_option maxHeartbeats 1000000
attribute [local irreducible] BI BQ AD AE AG Au Ab AO A8 Bi Ct BX BO At Fr
def CR:List (Df)->List Df->List Df->List Df->List Df×List Df×List Df
 | [],a0_0,a0_1,a0_2=>(a0_0,a0_1,a0_2)
 | e0::tl,a0_0,a0_1,a0_2=>cond (e0.kind==1) (CR tl (a0_0++[e0]) a0_1 a0_2) (cond (e0.kind==3) (CR tl (a0_0++[e0]) a0_1 a0_2) (cond (e0.kind==4) (CR tl (a0_0++[e0]) a0_1 a0_2) (cond (e0.kind==2) (CR tl a0_0 (a0_1++[e0]) a0_2) (cond (e0.kind==5) (CR tl a0_0 a0_1 (a0_2++[e0])) (CR tl a0_0 a0_1 a0_2)))))
theorem SS {c:List Df} {b:List Df} {a:List Df}:CR [] c b a=((c,b,a)):=by rw[CR]
theorem Rp {c:List Df} {b:List Df} {a:List Df} {es:List (Df)} (i:Nat) (d:Df) (hi:es[i]?=some d):CR (es.drop i) c b a=(cond (d.kind==1) (CR (es.drop (i+1)) (c++[d]) b a) (cond (d.kind==3) (CR (es.drop (i+1)) (c++[d]) b a) (cond (d.kind==4) (CR (es.drop (i+1)) (c++[d]) b a) (cond (d.kind==2) (CR (es.drop (i+1)) c (b++[d]) a) (cond (d.kind==5) (CR (es.drop (i+1)) c b (a++[d])) (CR (es.drop (i+1)) c b a)))))):=by have hl:i<es.length:=(List.getElem?_eq_some_iff.1 hi).1;have he:es[i]=d:=(List.getElem?_eq_some_iff.1 hi).2;rw[<-getElem_cons_drop hl,CR]<;>(try rw[he])
def AZ (ds:List (Df)):List Df×List Df×List Df:=CR ds ([]) ([]) ([])
noncomputable def ny:Code:=Tryz.f47.body.getD .skip
def Ni:=ν ([.code ny])
def ei:=ν (Au Ni)
def ABT:=AB (Aq Aa 90 (AE ei)) (AE ei)
def pp:=ν (AD (AD ABT))
def po:=Θ pp
def ABS:=AB (Aq BH 90 (AE po)) (AE po)
def pn:=Ξ pp
def pm:=Θ pn
def ABR:=AB (Aq BH 90 (AE pm)) (AE pm)
def eg:=Ξ pn
def vF:=AB (Aq BH 90 (AE eg)) (AE eg)
def US:=Ξ eg
def vE:=AB (Aq BH 90 (AE US)) (AE US)
def eh:=Ξ US
def vD:=AB (Aq BH 90 (AE eh)) (AE eh)
def AFZ:=Ξ ei
theorem gu (L:List Th) (n2:List UInt8) (h0:Option Addr) (ds:List (Df)) (x:Nat) (w we:World) (y1:rowsDf w h0 ds) (o2:ds.length<=4294967296) (B:Below (U w) w we) (H:AY (U w) we ([]++L)):Calls Tryz.prog 47 ([D [Y n2,V h0 ds.length x]]:List Value).toArray we λe w'=>∃(s1:Option Addr) (p1:Nat) (r1:Option Addr) (o1:Nat) (q1:Option Addr) (n1:Nat),e=.returned (.tuple #[V s1 ((((AZ ds)).1).length) p1,V r1 ((((AZ ds)).2.1).length) o1,V q1 ((((AZ ds)).2.2).length) n1])/\Below (U w) w w'/\AY (U w) w' ([C7 w s1 p1 (((AZ ds)).1),C7 w r1 o1 (((AZ ds)).2.1),C7 w q1 n1 (((AZ ds)).2.2)]++L):=by
 refine AS (fn:=Tryz.f47) (c:=ny) (n:=40) ?_;have K1:Wk w we [] [] L:=⟨B,H⟩;clear B H;refine Ar Ni K1 [(0,1)] λw1 K2=>?_;have K3:Wk w w1 [] [] L:=K2.pk [] [];have K4:=K3.addNil 72 21 (Ff Cg w);have K5:=K4.addNil 72 21 (Ff Cg w);have K6:=K5.addNil 72 21 (Ff Cg w);have z:(AZ ds)=CR ds ([]) ([]) ([]):=by unfold AZ;rfl
 refine AX [(2,V none 0 0),(3,V none 0 0),(4,V none 0 0),(8,V h0 ds.length x),(9,J ((ds.length:Int))),(10,J (((0:Nat):Int)))] λE2=>?_;refine Bp (by kernel_rfl) (λE h1=>∃(t:Nat) (l:List Df) (j:List Df) (i:List Df) (s:Option Addr) (r:Nat) (f:Option Addr) (d:Nat) (b:Option Addr) (a:Nat) (E0:Nat->Value),t<=ds.length/\E=BN E0 [(2,V s l.length r),(3,V f j.length d),(4,V b i.length a),(8,V h0 ds.length x),(9,J ((ds.length:Int))),(10,J ((t:Int)))]/\(AZ ds)=CR (List.drop t ds) l j i/\l.length<=1*t+0/\j.length<=1*t+0/\i.length<=1*t+0/\Wk w h1 [] [(C7 w s r l),(C7 w f d j),(C7 w b a i)] L) (λE _=>ds.length-AP (E 10)) ⟨0,([]),([]),([]),none,0,none,0,none,0,E2,Nat.zero_le _,rfl,z,by simp,by simp,by simp,K6⟩ ?_;clear z;rintro E h1 ⟨t,l,j,i,s,r,f,d,b,a,E0,v4,rfl,z,r2,q2,p2,K7⟩ v;refine AC ei K7 [] λw4 K8=>?_;refine AH (decide ((t:Int)<(ds.length:Int))) (λc5=>?_) (λc5=>?_)
 ·have y:t<ds.length:=by have:=of_decide_eq_true c5;omega
  obtain⟨u,x1⟩:∃e,ds[t]?=some e:=⟨_,getElem?_eq_getElem y⟩;rw[Rp t u x1]at z;obtain⟨c0,d0,rfl,z1,a2⟩:=y1.all (by omega);obtain⟨q,o,p,m,t1,b0,a0⟩:=a2 t _ x1;refine Ao Aa ABT K8 [] λw6 K9=>?_;refine Aw (g:=c0) (off:=d0) (cap:=x) (sz:=21) (k:=t) (len:=ds.length) (some 12) y Tryz.underlying25 ?_;refine Bd 72 c0 (d0+t*21) _ (some 13) (Aj t1 z1 K9.B) ?_;refine Ar pp K9 [(0,0),(0,0)] λw7 f2=>?_;refine AH (u.kind==1) (λc8=>?_) (λc8=>?_)
  ·refine AC po f2 [] λw9 r3=>?_;refine AH (u.kind==1) (λ_=>?_) (λh=>nomatch h.symm.trans c8);refine Bn BH ABS [N (U w6) ((CL u q o p m)) 72,N (U w9) ((CL u q o p m)) 72] r3 [(0,0)] λu4 q0=>?_;refine CD q0.H (q0.ix 0) (q0.at 0 rfl) u (ψ u q o p m) (LV b0 a0) (U w9) (q0.ent 1 (by kernel_rfl)) (Cr ABS) (by kernel_rfl) (.tmp 20) (.tmp 22) 25 (by kernel_rfl) (by kernel_rfl) (by kernel_rfl) (by decide) (by kernel_rfl) (by kernel_rfl) rfl rfl (by((try simp only[maxLen,length_append,length_cons,length_nil,length_singleton])<;>omega)) λg1 a1 t4 Hn w2=>?_;have q3:=q0.put 0 (by simp) w2 Hn;refine AC (Ab Ni) q3 [] λm2 p3=>?_;refine AX [(2,V g1 ((l++[u]).length) a1),(3,V f j.length d),(4,V b i.length a),(8,V (some ⟨c0,d0,none⟩) ds.length x),(9,J ((ds.length:Int))),(10,J (IntKind.i64.wrap ((t:Int)+1)))] λy3=>?_;have o3:Wk w m2 [] [(C7 w g1 a1 (l++[u])),(C7 w f d j),(C7 w b a i)] L:=p3.pk [] [0,1,2];rw[Bs t (by omega)];refine v _ _ ⟨t+1,(l++[u]),j,i,g1,a1,f,d,b,a,y3,y,rfl,by rw[z,c8]<;>rfl,by((try simp only[maxLen,length_append,length_cons,length_nil,length_singleton])<;>omega),by((try simp only[maxLen,length_append,length_cons,length_nil,length_singleton])<;>omega),by((try simp only[maxLen,length_append,length_cons,length_nil,length_singleton])<;>omega),o3⟩ ?_;show ds.length-AP (J ((t+1:Nat):Int))<ds.length-AP (J (t:Int));simp only[AP];omega
  refine AC pn f2 [] λq4 e2=>?_;refine AH (u.kind==3) (λg0=>?_) (λg0=>?_)
  ·refine AC pm e2 [] λm1 n3=>?_;refine AH (u.kind==3) (λ_=>?_) (λh=>nomatch h.symm.trans g0);refine Bn BH ABR [N (U w6) ((CL u q o p m)) 72,N (U m1) ((CL u q o p m)) 72] n3 [(0,0)] λn4 p0=>?_;refine CD p0.H (p0.ix 0) (p0.at 0 rfl) u (ψ u q o p m) (LV b0 a0) (U m1) (p0.ent 1 (by kernel_rfl)) (Cr ABR) (by kernel_rfl) (.tmp 20) (.tmp 22) 25 (by kernel_rfl) (by kernel_rfl) (by kernel_rfl) (by decide) (by kernel_rfl) (by kernel_rfl) rfl rfl (by((try simp only[maxLen,length_append,length_cons,length_nil,length_singleton])<;>omega)) λf1 z0 k4 Hn v2=>?_;have m3:=p0.put 0 (by simp) v2 Hn;refine AC (Ab Ni) m3 [] λl2 l3=>?_;refine AX [(2,V f1 ((l++[u]).length) z0),(3,V f j.length d),(4,V b i.length a),(8,V (some ⟨c0,d0,none⟩) ds.length x),(9,J ((ds.length:Int))),(10,J (IntKind.i64.wrap ((t:Int)+1)))] λx3=>?_;have k3:Wk w l2 [] [(C7 w f1 z0 (l++[u])),(C7 w f d j),(C7 w b a i)] L:=l3.pk [] [0,1,2];rw[Bs t (by omega)];refine v _ _ ⟨t+1,(l++[u]),j,i,f1,z0,f,d,b,a,x3,y,rfl,by rw[z,c8,g0]<;>rfl,by((try simp only[maxLen,length_append,length_cons,length_nil,length_singleton])<;>omega),by((try simp only[maxLen,length_append,length_cons,length_nil,length_singleton])<;>omega),by((try simp only[maxLen,length_append,length_cons,length_nil,length_singleton])<;>omega),k3⟩ ?_;show ds.length-AP (J ((t+1:Nat):Int))<ds.length-AP (J (t:Int));simp only[AP];omega
  refine AC eg e2 [] λl1 d2=>?_;refine AH (u.kind==4) (λj0=>?_) (λj0=>?_)
  ·refine Bn BH vF [N (U w6) ((CL u q o p m)) 72,N (U l1) ((CL u q o p m)) 72] d2 [(0,0)] λh4 m0=>?_;refine CD m0.H (m0.ix 0) (m0.at 0 rfl) u (ψ u q o p m) (LV b0 a0) (U l1) (m0.ent 1 (by kernel_rfl)) (Cr vF) (by kernel_rfl) (.tmp 20) (.tmp 22) 25 (by kernel_rfl) (by kernel_rfl) (by kernel_rfl) (by decide) (by kernel_rfl) (by kernel_rfl) rfl rfl (by((try simp only[maxLen,length_append,length_cons,length_nil,length_singleton])<;>omega)) λe1 x0 g4 Hn u2=>?_;have i3:=m0.put 0 (by simp) u2 Hn;refine AC (Ab Ni) i3 [] λk2 h3=>?_;refine AX [(2,V e1 ((l++[u]).length) x0),(3,V f j.length d),(4,V b i.length a),(8,V (some ⟨c0,d0,none⟩) ds.length x),(9,J ((ds.length:Int))),(10,J (IntKind.i64.wrap ((t:Int)+1)))] λw3=>?_;have g3:Wk w k2 [] [(C7 w e1 x0 (l++[u])),(C7 w f d j),(C7 w b a i)] L:=h3.pk [] [0,1,2];rw[Bs t (by omega)];refine v _ _ ⟨t+1,(l++[u]),j,i,e1,x0,f,d,b,a,w3,y,rfl,by rw[z,c8,g0,j0]<;>rfl,by((try simp only[maxLen,length_append,length_cons,length_nil,length_singleton])<;>omega),by((try simp only[maxLen,length_append,length_cons,length_nil,length_singleton])<;>omega),by((try simp only[maxLen,length_append,length_cons,length_nil,length_singleton])<;>omega),g3⟩ ?_;show ds.length-AP (J ((t+1:Nat):Int))<ds.length-AP (J (t:Int));simp only[AP];omega
  refine AC US d2 [] λk1 c2=>?_;refine AH (u.kind==2) (λr0=>?_) (λr0=>?_)
  ·refine Bn BH vE [N (U w6) ((CL u q o p m)) 72,N (U k1) ((CL u q o p m)) 72] c2 [(0,0)] λe4 l0=>?_;refine CD l0.H (l0.ix 1) (l0.at 1 rfl) u (ψ u q o p m) (LV b0 a0) (U k1) (l0.ent 1 (by kernel_rfl)) (Cr vE) (by kernel_rfl) (.tmp 26) (.tmp 28) 25 (by kernel_rfl) (by kernel_rfl) (by kernel_rfl) (by decide) (by kernel_rfl) (by kernel_rfl) rfl rfl (by((try simp only[maxLen,length_append,length_cons,length_nil,length_singleton])<;>omega)) λd1 w0 c4 Hn t2=>?_;have f3:=l0.put 1 (by simp) t2 Hn;refine AC (Ab Ni) f3 [] λi2 e3=>?_;refine AX [(2,V s l.length r),(3,V d1 ((j++[u]).length) w0),(4,V b i.length a),(8,V (some ⟨c0,d0,none⟩) ds.length x),(9,J ((ds.length:Int))),(10,J (IntKind.i64.wrap ((t:Int)+1)))] λv3=>?_;have c3:Wk w i2 [] [(C7 w s r l),(C7 w d1 w0 (j++[u])),(C7 w b a i)] L:=e3.pk [] [0,1,2];rw[Bs t (by omega)];refine v _ _ ⟨t+1,l,(j++[u]),i,s,r,d1,w0,b,a,v3,y,rfl,by rw[z,c8,g0,j0,r0]<;>rfl,by((try simp only[maxLen,length_append,length_cons,length_nil,length_singleton])<;>omega),by((try simp only[maxLen,length_append,length_cons,length_nil,length_singleton])<;>omega),by((try simp only[maxLen,length_append,length_cons,length_nil,length_singleton])<;>omega),c3⟩ ?_;show ds.length-AP (J ((t+1:Nat):Int))<ds.length-AP (J (t:Int));simp only[AP];omega
  refine AC eh c2 [] λi1 b2=>?_;refine AH (u.kind==5) (λv0=>?_) (λv0=>?_)
  ·refine Bn BH vD [N (U w6) ((CL u q o p m)) 72,N (U i1) ((CL u q o p m)) 72] b2 [(0,0)] λb4 k0=>?_;refine CD k0.H (k0.ix 2) (k0.at 2 rfl) u (ψ u q o p m) (LV b0 a0) (U i1) (k0.ent 1 (by kernel_rfl)) (Cr vD) (by kernel_rfl) (.tmp 32) (.tmp 34) 25 (by kernel_rfl) (by kernel_rfl) (by kernel_rfl) (by decide) (by kernel_rfl) (by kernel_rfl) rfl rfl (by((try simp only[maxLen,length_append,length_cons,length_nil,length_singleton])<;>omega)) λc1 t0 a4 Hn s2=>?_;have b3:=k0.put 2 (by simp) s2 Hn;refine AC (Ab Ni) b3 [] λh2 a3=>?_;refine AX [(2,V s l.length r),(3,V f j.length d),(4,V c1 ((i++[u]).length) t0),(8,V (some ⟨c0,d0,none⟩) ds.length x),(9,J ((ds.length:Int))),(10,J (IntKind.i64.wrap ((t:Int)+1)))] λu3=>?_;have z2:Wk w h2 [] [(C7 w s r l),(C7 w f d j),(C7 w c1 t0 (i++[u]))] L:=a3.pk [] [0,1,2];rw[Bs t (by omega)];refine v _ _ ⟨t+1,l,j,(i++[u]),s,r,f,d,c1,t0,u3,y,rfl,by rw[z,c8,g0,j0,r0,v0]<;>rfl,by((try simp only[maxLen,length_append,length_cons,length_nil,length_singleton])<;>omega),by((try simp only[maxLen,length_append,length_cons,length_nil,length_singleton])<;>omega),by((try simp only[maxLen,length_append,length_cons,length_nil,length_singleton])<;>omega),z2⟩ ?_;show ds.length-AP (J ((t+1:Nat):Int))<ds.length-AP (J (t:Int));simp only[AP];omega
  refine AC (Ab Ni) b2 [] λg2 y2=>?_;refine AX [(2,V s l.length r),(3,V f j.length d),(4,V b i.length a),(8,V (some ⟨c0,d0,none⟩) ds.length x),(9,J ((ds.length:Int))),(10,J (IntKind.i64.wrap ((t:Int)+1)))] λt3=>?_;have x2:Wk w g2 [] [(C7 w s r l),(C7 w f d j),(C7 w b a i)] L:=y2.pk [] [0,1,2];rw[Bs t (by omega)];refine v _ _ ⟨t+1,l,j,i,s,r,f,d,b,a,t3,y,rfl,by rw[z,c8,g0,j0,r0,v0]<;>rfl,by((try simp only[maxLen,length_append,length_cons,length_nil,length_singleton])<;>omega),by((try simp only[maxLen,length_append,length_cons,length_nil,length_singleton])<;>omega),by((try simp only[maxLen,length_append,length_cons,length_nil,length_singleton])<;>omega),x2⟩ ?_;show ds.length-AP (J ((t+1:Nat):Int))<ds.length-AP (J (t:Int));simp only[AP];omega
 have v1:t=ds.length:=by have:=of_decide_eq_false c5;omega
 rw[v1,drop_length,SS]at z;refine AC AFZ K8 [] λz3 b1=>?_;have hS:(AZ ds)=(l,j,i):=by rw[z]<;>rfl
 exact AN b1 (0,0) (.tuple #[V s l.length r,V f j.length d,V b i.length a]) ⟨s,r,f,d,b,a,by rw[hS]<;>rfl,b1.B,by rw[hS];exact b1.own [0,1,2] rfl (by decide)⟩
end
end Go.Proofs.YtkpemkkbjfbmaaaGreat
namespace Go.Proofs.YtkpemkkbjfbmaaaGreat
open List
open Go.RowKit
set_option maxRecDepth 100000
set_option maxHeartbeats 2000000
theorem qo {P:Program} {o:Oper} {ρ:Operand->Value} {w:World} {t e:TypeId} {x h:Operand} {g off len cap i:Nat} (hop:o.op=.slice t x none (some h) none) (hu:P.underlying t=some (.slice e)) (hs:Le P e≠none) (hx:ρ x=.slice (some ⟨g,off,none⟩) len cap) (c:ρ h=J (i:Nat)) (hi:i<=cap):(execOp ρ o).run P w=.ok (.value (.slice (some ⟨g,off,none⟩) i cap)) w:=by
 obtain⟨sz,b⟩:=Option.ne_none_iff_exists'.1 hs;have d:¬(cap:Int)<(i:Int):=by omega
 have a:(⟨g,off,none⟩:Addr).add 0=⟨g,off,none⟩:=rfl;simp[execOp,hop,hx,c,Instr.sliceAt,Instr.slice,run_underlying hu,In b,Instr.sliceBounds,Instr.sliceBound,asIntOf,hi,d,a]
theorem Ka {w:World} {e:Ax} (h:e.good w):w.rangeAt e.id e.off e.cells:=λ_ _ hv=>FI h hv rfl rfl rfl
theorem TR {w:World}:∀ {ds:List Df} {rs:List (List Value)} (i:Nat),FB Cg w ds rs->FB Cg w (ds.take i) (rs.take i)
 | ds,rs,0,_=>by rw[take_zero,take_zero];unfold FB;rfl
 | [],rs,i+1,h=>by unfold FB at h;subst h;rw[take_nil,take_nil];unfold FB;rfl
 | d::ds,rs,i+1,h=>by unfold FB at h;obtain⟨c,cs,rfl,a,h2⟩:=h;rw[take_succ_cons,take_succ_cons];unfold FB;exact⟨c,_,rfl,a,TR i h2⟩
theorem RA {w:World} {n:Nat} {A:Option Addr} {rs:List (List Value)} (h:DF Cg w n A rs) (i:Nat):DF Cg w n A (rs.take i):=by
 rcases h with h | ⟨g,off,rfl,h2,hg,hc⟩
 ·subst h;rw[take_nil];exact .inl rfl
 refine .inr ⟨g,off,rfl,h2,hg,λj r a=>hc j r ?_⟩;rw[getElem?_take]at a
 split at a
 ·exact a
 cases a
theorem rowsDf.take {w:World} {A:Option Addr} {ds:List Df} (h:rowsDf w A ds) (i:Nat):rowsDf w A (ds.take i):=
 let ⟨_,h1,h2⟩:=h
 ⟨_,TR i h1,RA h2 i⟩
abbrev BD (e:Int×Int):List Value:=[J e.1,J e.2]
abbrev HV:=Cn 2 BD
abbrev Dz:=List UInt8×Int×Int
abbrev Fn (e:Dz):List Value:=[Y (e.1),J e.2.1,J e.2.2]
abbrev Kg:=Cn 3 Fn
abbrev IY:=List UInt8×List (Int×Int)
def iJ (A:Option Addr) (n c:Nat):Prop:=n<=c/\∀a,A=some a->a.spot=none
def Gn (w:World) (A:Option Addr) (l:List IY):Prop:=∃rs,Dh (λe r=>∃A c,r=[Y (e.1),V A e.2.length c]/\iJ A e.2.length c/\HV w A e.2) l rs/\DF Cg w 2 A rs
theorem XA {α:Type} {a:α->List Value->Prop}:∀ {l:List α} {rs:List (List Value)} {i:Nat} {e:α},Dh a l rs->l[i]?=some e->∃r,rs[i]?=some r/\a e r
 | [],_,_,_,_,h=>by simp at h
 | _::_,[],_,_,h,_=>h.elim
 | _::_,r::_,0,_,h,hi=>⟨r,rfl,by simp at hi;exact hi ▸ h.1⟩
 | _::_,_::_,i+1,_,h,hi=>by obtain⟨r,b,h2⟩:=XA (i:=i) h.2 (by simpa using hi);exact⟨r,by simpa using b,h2⟩
theorem S6 {α:Type} {b a:α->List Value->Prop}:∀ {l:List α} {rs:List (List Value)},(∀e r,e∈l->b e r->a e r)->Dh b l rs->Dh a l rs
 | [],[],_,_=>trivial
 | [],_::_,_,h=>h.elim
 | _::_,[],_,h=>h.elim
 | _::_,_::_,hm,h=>⟨hm _ _ (by simp) h.1,S6 (λe r he=>hm e r (by simp[he])) h.2⟩
theorem Gn.below {w w':World} {A:Option Addr} {l:List IY} (h:Gn w A l) (B:Below (U w) w w'):Gn w' A l:=by obtain⟨rs,a,h2⟩:=h;exact⟨rs,S6 (λe r _ ⟨A,c,hr,hc,he⟩=>⟨A,c,hr,hc,Cn.below he B⟩) a,DF.below h2 B⟩
theorem Gn.all {w:World} {A:Option Addr} {l:List IY} (h:Gn w A l) (a:0<l.length):∃g off,A=some ⟨g,off,none⟩/\g<(U w)/\∀(i:Nat) e,l[i]?=some e->∃b c,w.rangeAt g (off+i*2) [Y (e.1),V b e.2.length c]/\iJ b e.2.length c/\HV w b e.2:=by
 obtain⟨rs,d,h2⟩:=h;rcases h2 with h2 | ⟨g,off,rfl,_,hg,hc⟩
 ·rw[<-GW d,h2]at a;exact absurd a (Nat.lt_irrefl _)
 refine⟨g,off,rfl,hg,λi e hi=>?_⟩;obtain⟨r,hr,b,c,rfl,hl,hx⟩:=XA d hi;exact⟨b,c,λj u hu=>hc i _ hr j u hu,hl,hx⟩
theorem Ju {a:Array Bool} {i j:Nat} (h:i<a.size):(a.setIfInBounds i true).getD j false=(decide (i=j)||a.getD j false):=by
 rw[Array.getD_eq_getD_getElem?,Array.getD_eq_getD_getElem?,Array.getElem?_setIfInBounds];by_cases hij:i=j
 ·simp[hij]at h ⊢;simp[h]
 simp[hij]
theorem Ud {a:Array Bool} {j:Nat} (h:a.getD j false=true):a.getD j true=true:=by
 rw[Array.getD_eq_getD_getElem?]at h ⊢
 cases hl:a[j]? with
 | none=>rfl
 | some v=>rw[hl]at h;exact h
theorem AL.skip {P:Program} {o:Oper} {ρ:Operand->Value} {w w':World} {K:Value->World->Prop} (hx:(execOp ρ o).run P w=.ok .skip w') (a:K undef w'):AL P o ρ w K:=by unfold AL;rw[hx];exact a
attribute [local irreducible] BI BQ AD AE AG Au Ab AO A8 Bi Ct BX EE EH DW BO At Fr
theorem AC3 {R:Ending->World->Prop} {b:Nat} {ns:List Int} {H:Nat} {wl:Bool} {w w0 d:World} {A:Option Addr} {c:Nat} {xs o:List Ep} {G:Nat->Prop} {E:Nat->Value} {i:Nat} (t:0<xs.length) (l:(U w0)=b) (hl:xs.length<=100) (K:Wk w0 d (FK w A xs.length c) (EO w0 b ns w A c xs G o) []) (v:∀n m,n<xs.length->m<xs.length->∀(E:Nat->Value) w',Wk w0 w' (FK w A xs.length c) (EO w0 b ns w A c xs G o) []->At Tryz.prog 5 R (AO Qc) (Fr 168 (BN E (HH b w (i:Int)++[(15,J (n:Int)),(16,J (m:Int))]))) w'):At Tryz.prog 5 R Qc (Fr 168 (BN E (HH b w (i:Int)))) d:=by
 have hb:b<(U d):=(K.tapeOk l 0 rfl).lt;refine FJ K l 0 rfl [0,1,2,3,4,5,6,7,8,9] (FK w A xs.length c) [(2,1,1),(7,1,1)] [(4,KC xs.length),(9,KC xs.length)] 2 (λu hu=>hu.G) (λp a=>?_) (λp a X u hu k hf=>?_) λX u hu k hf=>?_
 ·simp only[mem_cons,not_mem_nil,or_false]at a;rcases a with rfl | rfl
  ·exact λ_ _ _ _ h=>h
  exact λ_ _ _ _ h=>h
 ·have q:=hu.tapeOk l 0 rfl;simp only[mem_cons,not_mem_nil,or_false]at a;rcases a with rfl | rfl
  ·exact CF (xs:=[.tmp 139,.tmp 142]) (args:=[Z b,J (xs.length:Int)]) ((Be b ns xs.length u q (by omega) (by omega)).mono λe w' ⟨y,s,j,g,f⟩=>⟨_,j,g,f,y,by omega,rfl⟩) rfl
  exact CF (xs:=[.tmp 144,.tmp 147]) (args:=[Z b,J (xs.length:Int)]) ((Be b ns xs.length u q (by omega) (by omega)).mono λe w' ⟨y,s,j,g,f⟩=>⟨_,j,g,f,y,by omega,rfl⟩) rfl
 obtain⟨n,hn,e1⟩:KC xs.length (X 4) u:=hf 4 (by simp) rfl;obtain⟨m,hm,x⟩:KC xs.length (X 9) u:=hf 9 (by simp) rfl;refine Bk ((HH b w (i:Int))++[(143,X 4),(148,X 9)]) λE2=>?_;rw[e1,x];refine EL hu [(10,0,0),(11,0,0)] (λ_=>(FK w A xs.length c)) λz r K5=>?_;refine AX (HH b w (i:Int)++[(15,J (n:Int)),(16,J (m:Int))]) λE5=>?_;exact v n m hn hm E5 r K5
theorem swap_perm {α:Type} {xs:List α} {n m:Nat} {a b:α} (hm:xs[m]?=some b) (hn:xs[n]?=some a):((xs.set n b).set m a).Perm xs:=by obtain⟨f,e⟩:=List.getElem?_eq_some_iff.1 hm;obtain⟨d,c⟩:=List.getElem?_eq_some_iff.1 hn;have h:=Array.swap_perm (xs:=xs.toArray) (i:=n) (j:=m) (by simpa using d) (by simpa using f);rw[Array.perm_iff_toList_perm]at h;simp only[Array.swap,getElem_toArray,Array.toList_set]at h;rwa [e,c]at h
theorem AC2 {R:Ending->World->Prop} {b:Nat} {ns:List Int} {H:Nat} {wl:Bool} {w w0 w1:World} {A:Option Addr} {c:Nat} {xs d:List Ep} {G:Nat->Prop} {E:Nat->Value} {i n m:Nat} (hn:n<xs.length) (hm:m<xs.length) (h0:(U w0)=b) (K:Wk w0 w1 (FK w A xs.length c) (EO w0 b ns w A c xs G d) []) (hk:∀zs,zs.length=xs.length->zs.Perm xs->∀(E:Nat->Value) w',Wk w0 w' (FK w A zs.length c) (EO w0 b ns w A c zs G d) []->At Tryz.prog 5 R (AO Jo) (Fr 168 (BN E (HH b w (i:Int)))) w'):At Tryz.prog 5 R Jo (Fr 168 (BN E (HH b w (i:Int)++[(15,J (n:Int)),(16,J (m:Int))]))) w1:=by
 obtain⟨g,rfl,_⟩:=K.H.rowAt (K.ix 2) (K.at 2 rfl) (by omega);obtain⟨l,b0⟩:∃y,xs[m]?=some y:=⟨_,getElem?_eq_getElem hm⟩;obtain⟨yn,a0⟩:∃y,xs[n]?=some y:=⟨_,getElem?_eq_getElem hn⟩;have elem:∀ {u:World},Wk w0 u (FK w (θ g) xs.length c) (EO w0 b ns w (θ g) c xs G d) []->∀(k:Nat) y,xs[k]?=some y->u.rangeAt g (0+k*21) y.2/\y.2.length=21:=λ{u} f k y hy=>by
  obtain⟨rs,h1,h2⟩:=f.H.rows (λ_ _ h=>h.2.1) (f.ix 2) (f.at 2 rfl);obtain⟨r,h3,h4⟩:=MB h1 hy;rcases h2 with h2 | ⟨g',off,h2,_,_,h5⟩
  ·rw[h2]at h3;cases h3
  obtain⟨rfl,rfl⟩:g=g'/\0=off:=by simpa using h2
  have h6:=h4.1;subst h6;exact⟨λj v hv=>h5 k _ h3 j v hv,h4.2.1⟩
 have d0:∀ {u:World},Wk w0 u (FK w (θ g) xs.length c) (EO w0 b ns w (θ g) c xs G d) []->∀(k:Nat) y,xs[k]?=some y->Oi y y.2:=λ{u} f k y hy=>by obtain⟨rs,h1,h2⟩:=f.H.rows (λ_ _ h=>h.2.1) (f.ix 2) (f.at 2 rfl);obtain⟨r,h3,h4⟩:=MB h1 hy;have h6:=h4.1;subst h6;exact h4
 have rm:=d0 K m l b0;have rn:=d0 K n yn a0;have keep:∀(j:Nat),j≠17->∀ {a:Array Bool} {u:World},(λa u=>a.size=20/\((a.getD 17 false=false/\Wk w0 u (FK w (θ g) xs.length c) (EO w0 b ns w (θ g) c xs G d) [])\/(a.getD 17 false=true/\a.getD 10 false=true/\a.getD 15 false=true/\Wk w0 u (FK w (θ g) xs.length c) (EO w0 b ns w (θ g) c (xs.set n l) G d) []))) a u->(λa u=>a.size=20/\((a.getD 17 false=false/\Wk w0 u (FK w (θ g) xs.length c) (EO w0 b ns w (θ g) c xs G d) [])\/(a.getD 17 false=true/\a.getD 10 false=true/\a.getD 15 false=true/\Wk w0 u (FK w (θ g) xs.length c) (EO w0 b ns w (θ g) c (xs.set n l) G d) []))) (a.setIfInBounds j true) u:=λj hj a u ⟨hs,h⟩=>by
  refine⟨by rw[Array.size_setIfInBounds];exact hs,?_⟩;by_cases hb:j<a.size
  ·rw[Ju hb,Ju hb,Ju hb,decide_eq_false hj,Bool.false_or];rcases h with h | ⟨h1,h2,h3,h4⟩
   ·exact .inl h
   exact .inr ⟨h1,by rw[h2,Bool.or_true],by rw[h3,Bool.or_true],h4⟩
  rw[show a.setIfInBounds j true=a by rw[Array.setIfInBounds,dif_neg hb]];exact h
 have s:∀(j:Nat),(j=10\/j=15\/j=17)->∀ {a:Array Bool} {u:World},a.getD j true=false->(λa u=>a.size=20/\((a.getD 17 false=false/\Wk w0 u (FK w (θ g) xs.length c) (EO w0 b ns w (θ g) c xs G d) [])\/(a.getD 17 false=true/\a.getD 10 false=true/\a.getD 15 false=true/\Wk w0 u (FK w (θ g) xs.length c) (EO w0 b ns w (θ g) c (xs.set n l) G d) []))) a u->Wk w0 u (FK w (θ g) xs.length c) (EO w0 b ns w (θ g) c xs G d) []:=λj hj a u hl ⟨_,h⟩=>by
  rcases h with⟨_,h⟩ | ⟨h1,h2,h3,_⟩
  ·exact h
  rcases hj with rfl | rfl | rfl
  ·rw[Ud h2]at hl;cases hl
  ·rw[Ud h3]at hl;cases hl
  rw[Ud h1]at hl;cases hl
 refine DK (Ak Jo) ([0,1,2,3,4,5,6,7,8,9,10,11,12,13,14,15,16,17,18].length+1) ?_;refine Sl (C:=λa _ u=>(λa u=>a.size=20/\((a.getD 17 false=false/\Wk w0 u (FK w (θ g) xs.length c) (EO w0 b ns w (θ g) c xs G d) [])\/(a.getD 17 false=true/\a.getD 10 false=true/\a.getD 15 false=true/\Wk w0 u (FK w (θ g) xs.length c) (EO w0 b ns w (θ g) c (xs.set n l) G d) []))) a u) (Ext:=λ_ _=>True) [0,1,2,3,4,5,6,7,8,9,10,11,12,13,14,15,16,17,18] (FK w (θ g) xs.length c) [(1,1,1),(4,1,1),(7,1,1),(12,1,1)] [9,10,14,15,16,17,18] (λi=>match i with | 17=>[15] | _=>[]) (NK [(9,λv _=>v=.pointer (some ⟨g,0+m*21,none⟩)),(10,λv _=>v=D (l.2)),(14,λv _=>v=.pointer (some ⟨g,0+n*21,none⟩)),(15,λv _=>v=D (yn.2)),(16,λv _=>v=.pointer (some ⟨g,0+n*21,none⟩)),(17,λ_ _=>True),(18,λv _=>v=.pointer (some ⟨g,0+m*21,none⟩))]) 1 ⟨by kernel_rfl,.inl ⟨by kernel_rfl,K.below (Below.refl _ _).drew⟩⟩ (λa _ u hu=>hu.2.elim (λh=>h.2.G) λh=>h.2.2.2.G) (λ_=>trivial) (λ_ _ _ _ _=>trivial) (λj v u u' _ h=>XL (Ext:=λ_ _=>True) (λp hp=>?_) j v u u' trivial h) (λj _ hj a _ _ u hu=>keep j (λe=>by subst e;cases hj) hu) (λj hj X a u c0 e0 q hf=>?_) (by kernel_rfl) (by intro _;kernel_rfl) (by intro _ _;kernel_rfl) (by intro _;kernel_rfl) λX u q _ hf=>?_
 ·simp only[mem_cons,not_mem_nil,or_false]at hp;rcases hp with rfl | rfl | rfl | rfl | rfl | rfl | rfl<;>exact λ_ _ _ _ h=>h
 ·simp only[mem_cons,not_mem_nil,or_false]at hj;rcases hj with rfl | rfl | rfl | rfl | rfl | rfl | rfl
  ·exact AL.value (BJ (g:=g) (off:=0) (sz:=21) (k:=m) (len:=xs.length) (cap:=c) 25 (.tmp 156) (.tmp 157) hm Tryz.underlying25) ⟨keep 9 (by omega) q,trivial,rfl⟩
  ·have f:Wk w0 u (FK w (θ g) xs.length c) (EO w0 b ns w (θ g) c xs G d) []:=s 10 (by simp) c0 q;refine AL.loadMid 72 (.tmp 158) (by kernel_rfl) (Eq.trans (b:=X 9) (by kernel_rfl) (hf 9 (by kernel_rfl) (by kernel_rfl))) l.2 (elem f m l b0).1 (by kernel_rfl) ?_ ⟨keep 10 (by omega) q,trivial,rfl⟩;rw[(elem f m l b0).2]
   kernel_rfl
  ·exact AL.value (BJ (g:=g) (off:=0) (sz:=21) (k:=n) (len:=xs.length) (cap:=c) 25 (.tmp 161) (.tmp 162) hn Tryz.underlying25) ⟨keep 14 (by omega) q,trivial,rfl⟩
  ·have f:Wk w0 u (FK w (θ g) xs.length c) (EO w0 b ns w (θ g) c xs G d) []:=s 15 (by simp) c0 q;refine AL.loadMid 72 (.tmp 163) (by kernel_rfl) (Eq.trans (b:=X 14) (by kernel_rfl) (hf 14 (by kernel_rfl) (by kernel_rfl))) yn.2 (elem f n yn a0).1 (by kernel_rfl) ?_ ⟨keep 15 (by omega) q,trivial,rfl⟩;rw[(elem f n yn a0).2]
   kernel_rfl
  ·exact AL.value (BJ (g:=g) (off:=0) (sz:=21) (k:=n) (len:=xs.length) (cap:=c) 25 (.tmp 150) (.tmp 151) hn Tryz.underlying25) ⟨keep 16 (by omega) q,trivial,rfl⟩
  ·have f:Wk w0 u (FK w (θ g) xs.length c) (EO w0 b ns w (θ g) c xs G d) []:=s 17 (by simp) c0 q;have i0:=e0 10 (by kernel_rfl);have g0:=e0 15 (by kernel_rfl);refine AL.over [(165,.pointer (some ⟨g,0+n*21,none⟩)),(159,D (l.2))] ⟨Eq.trans (b:=X 16) (by kernel_rfl) (hf 16 (by kernel_rfl) (by kernel_rfl)),Eq.trans (b:=X 10) (by kernel_rfl) (hf 10 (by kernel_rfl) (by kernel_rfl)),trivial⟩ ?_;obtain⟨w',hx,Hn,hb⟩:=RB (P:=Tryz.prog) (o:=(Ak Jo).getD 17 default) (ρ:=TD [(165,.pointer (some ⟨g,0+n*21,none⟩)),(159,D (l.2))] (BK 168 (Ew Tryz.prog 168 (Ak Jo) (FK w (θ g) xs.length c) [(1,1,1),(4,1,1),(7,1,1),(12,1,1)] (EG [9,10,14,15,16,17,18] X) [0,1,2,3,4,5,6,7,8,9,10,11,12,13,14,15,16,17,18] (BN E (HH b w (i:Int)++[(15,J (n:Int)),(16,J (m:Int))])) 17))) f.H (f.ix 2) (f.at 2 rfl) n l l.2 hn rm (λ_ _ h=>h.2.1) (t:=72) (x:=.tmp 165) (y:=.tmp 159) (by kernel_rfl) (by kernel_rfl) (by kernel_rfl) (by kernel_rfl) rm.2.2;have K2:=f.put 2 (by simp[EO]) hb Hn;refine AL.skip hx ⟨⟨by rw[Array.size_setIfInBounds];exact q.1,.inr ?_⟩,trivial,trivial⟩;rw[Ju (by rw[q.1];decide),Ju (by rw[q.1];decide),Ju (by rw[q.1];decide)];exact⟨rfl,i0,g0,K2⟩
  exact AL.value (BJ (g:=g) (off:=0) (sz:=21) (k:=m) (len:=xs.length) (cap:=c) 25 (.tmp 153) (.tmp 154) hm Tryz.underlying25) ⟨keep 18 (by omega) q,trivial,rfl⟩
 obtain⟨hs,h⟩:=q;have K2:Wk w0 u (FK w (θ g) xs.length c) (EO w0 b ns w (θ g) c (xs.set n l) G d) []:=by
  rcases h with⟨h,_⟩ | ⟨_,_,_,h⟩
  ·exact absurd h (by rw[show(List.foldl (λb i=>Array.setIfInBounds b i true) (Array.replicate ([0,1,2,3,4,5,6,7,8,9,10,11,12,13,14,15,16,17,18].length+1) false) [0,1,2,3,4,5,6,7,8,9,10,11,12,13,14,15,16,17,18]).getD 17 false=true by kernel_rfl];decide)
  exact h
 have e1:X 18=.pointer (some ⟨g,0+m*21,none⟩):=hf 18 (by decide) (by decide);have e2:X 15=D (yn.2):=hf 15 (by decide) (by decide);refine Bk ((HH b w (i:Int))++[(166,X 18),(164,X 15)]) λE2=>?_;rw[e1,e2];obtain⟨w3,hx,Hn,hb⟩:=RB (P:=Tryz.prog) (o:=(Ak Jo).getD 19 default) (ρ:=BK 168 (BN E2 ((HH b w (i:Int))++[(166,.pointer (some ⟨g,0+m*21,none⟩)),(164,D (yn.2))]))) K2.H (K2.ix 2) (K2.at 2 rfl) m yn yn.2 (by rw[length_set];exact hm) rn (λ_ _ h=>h.2.1) (t:=72) (x:=.tmp 166) (y:=.tmp 164) (by kernel_rfl) (by kernel_rfl) (by kernel_rfl) (by kernel_rfl) rn.2.2;refine On (i:=19) ((Ak Jo).getD 19 default) (by kernel_rfl) (by kernel_rfl) (by kernel_rfl) hx ?_;have K3:Wk w0 w3 (FK w (θ g) xs.length c) (EO w0 b ns w (θ g) c ((xs.set n l).set m yn) G d) []:=K2.put 2 (by simp[EO]) hb Hn;refine EL K3 [] (λ_=>(FK w (θ g) xs.length c)) λz w5 K5=>?_;refine AX (HH b w (i:Int)) λE5=>?_;exact hk ((xs.set n l).set m yn) (by rw[length_set,length_set]) (swap_perm b0 a0) E5 w5 (by rw[length_set,length_set];exact K5)
structure JN (H:Nat) (wl:Bool) (i j:Nat) (xs ys:List Ep):Prop where
 mem:∀x∈xs,x∈ys
 ok:∀x∈xs,IZ H wl x.1
 ins:∀d∈Fa,d∈xs.map (·.1)
 scw:∃es,FZ es/\Ci [119] CH 20454 es∈xs.map (·.1)
 scs:∃es,FZ es/\Ci [115] BT 20454 es∈xs.map (·.1)
 rul:∀k,k<i->∃x,GG k 20454 x∈xs.map (·.1)
 pay:0<j->∃x mode q,Ip 0 x mode q∈xs.map (·.1)
def G6 (d:Df):List UInt8×Int:=(d.name,d.frm)
def KJ (k:List UInt8×Int):Nat:=if k.1=[114,49]then(if k.2=20459 then 11 else 10)else if k.1=[114,50]then(if k.2=20459 then 13 else 12)else if k.1=[114,51]then(if k.2=20459 then 15 else 14)else if k.1=[114,52]then(if k.2=20459 then 17 else 16)else if k.1=[97]then 20 else if k.1=[98]then 21 else if k.2=20459 then 8 else 0
def IP (n:Nat) (xs:List Ep):Prop:=(xs.map λx=>G6 x.1).Nodup/\∀x∈xs,KJ (G6 x.1)<n
theorem IP.up {n m:Nat} {xs:List Ep} (h:IP n xs) (hn:n<=m):IP m xs:=⟨h.1,λx hx=>Nat.lt_of_lt_of_le (h.2 x hx) hn⟩
theorem IP.perm {n:Nat} {xs a:List Ep} (b:a.Perm xs) (h:IP n xs):IP n a:=⟨(b.map _).nodup_iff.2 h.1,λx hx=>h.2 x (b.mem_iff.1 hx)⟩
theorem IP.add {n m:Nat} {xs es:List Ep} {d:Df} (h:IP n xs) (hd:es.map (·.1)=[d]) (g:n<=KJ (G6 d)) (h2:KJ (G6 d)<m):IP m (xs++es):=by
 obtain⟨x,rfl,rfl⟩:∃x,es=[x]/\x.1=d:=by
  match es,hd with
  | [x],hd=>exact⟨x,rfl,(List.cons.inj hd).1⟩
 refine⟨?_,λy c=>?_⟩
 ·rw[map_append,nodup_append];refine⟨h.1,by simp,λa ha b hb f=>?_⟩;obtain⟨y,c,rfl⟩:=mem_map.1 ha;have e:G6 y.1=G6 x.1:=f.trans (mem_singleton.1 hb);have:=h.2 y c;rw[e]at this;omega
 rcases mem_append.1 c with c | c
 ·have:=h.2 y c;omega
 rw[mem_singleton.1 c];exact h2
theorem JN.add {H:Nat} {wl:Bool} {i j:Nat} {xs b es:List Ep} (h:JN H wl i j xs b) (he:∀d∈es.map (·.1),IZ H wl d):JN H wl i j (xs++es) (b++es):=by
 have up:∀ {d:Df},d∈xs.map (·.1)->d∈(xs++es).map (·.1):=λ{d} hd=>by rw[map_append];exact mem_append_left _ hd
 refine⟨λx hx=>?_,λx hx=>?_,λd hd=>up (h.ins d hd),?_,?_,λk c=>?_,λf=>?_⟩
 ·rcases mem_append.1 hx with hx | hx
  ·exact mem_append_left _ (h.mem x hx)
  exact mem_append_right _ hx
 ·rcases mem_append.1 hx with hx | hx
  ·exact h.ok x hx
  exact he _ (mem_map_of_mem hx)
 ·obtain⟨e,a,h2⟩:=h.scw;exact⟨e,a,up h2⟩
 ·obtain⟨e,a,h2⟩:=h.scs;exact⟨e,a,up h2⟩
 ·obtain⟨x,a⟩:=h.rul k c;exact⟨x,up a⟩
 obtain⟨x,m,q,a⟩:=h.pay f;exact⟨x,m,q,up a⟩
theorem JN.same {H:Nat} {wl:Bool} {i j:Nat} {xs c b:List Ep} (h:JN H wl i j xs c) (he:∀z,z∈b↔z∈xs):JN H wl i j b c:=by
 have up:∀ {d:Df},d∈xs.map (·.1)->d∈b.map (·.1):=λ{d} hd=>by obtain⟨z,a,h2⟩:=mem_map.1 hd;exact mem_map.2 ⟨z,(he z).2 a,h2⟩
 refine⟨λx hx=>h.mem x ((he x).1 hx),λx hx=>h.ok x ((he x).1 hx),λd hd=>up (h.ins d hd),?_,?_,λk f=>?_,λg=>?_⟩
 ·obtain⟨e,a,h2⟩:=h.scw;exact⟨e,a,up h2⟩
 ·obtain⟨e,a,h2⟩:=h.scs;exact⟨e,a,up h2⟩
 ·obtain⟨x,a⟩:=h.rul k f;exact⟨x,up a⟩
 obtain⟨x,m,q,a⟩:=h.pay g;exact⟨x,m,q,up a⟩
theorem AGU {R:Ending->World->Prop} {b:Nat} {ns:List Int} {H:Nat} {wl:Bool} {w w0 r:World} {A:Option Addr} {c:Nat} {xs f:List Ep} {G:Nat->Prop} {E:Nat->Value} (o:(U w0)=b) (d:0<xs.length) (hl:xs.length<=30) (hi:JN H wl 4 1 xs f) (a:IP 30 xs) (K:Wk w0 r (FK w A xs.length c) (EO w0 b ns w A c xs G f) []) (hR:∀(A:Option Addr) (c:Nat) (xs f:List Ep) (G:Nat->Prop) (M:List Ax) w',JN H wl 4 1 xs f->IP 30 xs->xs.length<=30->Wk w0 w' M (EO w0 b ns w A c xs G f) []->R (.returned (D [Y Cj,V A xs.length c])) w'):At Tryz.prog 5 R Vv (Fr 168 (BN E (AC8 b w++[(133,Z b)]))) r:=by
 refine BS K o 0 rfl (Be b ns 4 _ (K.tapeOk o 0 rfl) (by omega) (by omega)) Bl.ok λe v x l=>?_;obtain⟨k,hk,rfl,_,_⟩:=x;refine⟨_,rfl,?_⟩;refine AC Vu l [] λp h=>?_;refine AX (HH b w (k:Int)) λs=>?_;refine Bp (by kernel_rfl) (λE q=>∃(i:Nat) (xs:List Ep) (t:Nat->Value),i<=3/\E=BN t (HH b w (i:Int))/\JN H wl 4 1 xs f/\IP 30 xs/\0<xs.length/\xs.length<=30/\Wk w0 q (FK w A xs.length c) (EO w0 b ns w A c xs G f) []) (λE _=>AP (E 14)) ⟨k,xs,s,by omega,rfl,hi,a,d,hl,h⟩ ?_;clear K l h hi d hl a;rintro E q ⟨i,xs,t,y,rfl,hi,a,d,hl,K1⟩ g;refine AC Vt K1 [] λv l=>?_;refine AH (decide (0<(i:Int))) (λhc=>?_) (λ_=>?_)
 ·have a0:0<i:=by have:=of_decide_eq_true hc;omega
  refine AC Qc l [] λp h=>?_;refine AX (HH b w (i:Int)) λs=>?_;refine AC3 (H:=H) (wl:=wl) d o (by omega) h λn m hn hm E4 w4 K4=>?_;refine AC Jo K4 [] λw5 K5=>?_;refine AX (HH b w (i:Int)++[(15,J (n:Int)),(16,J (m:Int))]) λE5=>?_;refine AC2 (H:=H) (wl:=wl) hn hm o K5 λu hz j E6 w6 K6=>?_;refine AC (Ab Vu) K6 [] λw7 K7=>?_;refine AX (HH b w (IntKind.i64.wrap ((i:Int)-1))) λE7=>?_;rw[show IntKind.i64.wrap ((i:Int)-1)=((i-1:Nat):Int) by rw[IntWalk.i64_in _ (by omega)];omega];refine g _ _ ⟨i-1,u,E7,by omega,rfl,hi.same (λz=>j.mem_iff),a.perm j,by omega,by omega,K7⟩ ?_;show AP (J ((i-1:Nat):Int))<AP (J (i:Int));simp only[AP];omega
 refine An zQ [N (U w) [Y Cj,V A xs.length c] 27,N (U w+1) [Y Cj,V A xs.length c] 27] l [(1,0),(0,0)] λp h=>?_;exact AN h (0,0) (D [Y Cj,V A xs.length c]) (hR A c xs f G _ p hi a hl h)
theorem AC6 {R:Ending->World->Prop} {b:Nat} {ns:List Int} {H:Nat} {wl:Bool} {w w0 v:World} {A:Option Addr} {c:Nat} {xs a:List Ep} {G:Nat->Prop} {E:Nat->Value} {gN z:Nat} (hH:0<H) (s:H<=1000) (n:w0.heap.size=b) (hl:xs.length<=16) (hi:JN H wl 4 0 xs a) (f:IP 20 xs) (K:Wk w0 v (KL w A xs.length c gN z) (EO w0 b ns w A c xs G a) []) (hR:∀(A:Option Addr) (c:Nat) (xs a:List Ep) (G:Nat->Prop) (M:List Ax) w',JN H wl 4 1 xs a->IP 30 xs->xs.length<=30->Wk w0 w' M (EO w0 b ns w A c xs G a) []->R (.returned (D [Y Cj,V A xs.length c])) w'):At Tryz.prog 5 R Qd (Fr 168 (BN E (Ke b H w ((0:Nat):Int)))) v:=by
 refine Bp (by kernel_rfl) (λE u=>∃(i:Nat) (A:Option Addr) (c:Nat) (xs a:List Ep) (G:Nat->Prop) (E0:Nat->Value),i<=2/\E=BN E0 (Ke b H w (i:Int))/\JN H wl 4 i xs a/\IP (20+i) xs/\xs.length<=16+i/\Wk w0 u (KL w A xs.length c gN z) (EO w0 b ns w A c xs G a) []) (λE _=>3-AP (E 13)) ⟨0,A,c,xs,a,G,E,by omega,rfl,hi,f,hl,K⟩ ?_;clear K hi hl f;rintro E u ⟨i,A,c,xs,a,G,E0,b0,rfl,hi,f,hl,K1⟩ j;refine AC jz K1 [] λw2 K2=>?_;refine BS K2 n 0 rfl (Be b ns 2 _ (K2.tapeOk n 0 rfl) (by omega) (by omega)) Bl.ok λe w3 o K3=>?_;obtain⟨k,hk,rfl,_,_⟩:=o;refine⟨_,rfl,?_⟩;refine AC Vx K3 [] λw4 K4=>?_;refine AH (decide ((i:Int)<=(k:Int))) (λhc=>?_) (λhc=>?_)
 ·have a0:i<=1:=by have:=of_decide_eq_true hc;omega
  refine AC Vw K4 [] λw5 t=>?_;refine AX (Ke b H w (i:Int)) λE5=>?_;refine AC4 (by omega) hH s n (by omega) t λA' c' es G' E6 w6 o he K6=>?_;refine AC (Ab Qd) K6 [] λw7 K7=>?_;refine AX (Ke b H w (IntKind.i64.wrap ((i:Int)+1))) λE7=>?_;rw[show IntKind.i64.wrap ((i:Int)+1)=((i+1:Nat):Int) by rw[IntWalk.i64_in _ (by omega)];omega];obtain⟨d,hd,x,mode,q,rfl,q0,q6,q7,y⟩:=o;rw[IntWalk.i64_in _ (by omega)]at y;have l:20+i<=KJ (G6 (Ip i x mode q))/\KJ (G6 (Ip i x mode q))<20+(i+1):=by
   obtain rfl | rfl:i=0\/i=1:=by omega
   ·exact⟨by show 20<=KJ ([97],20454);decide,by show KJ ([97],20454)<21;decide⟩
   exact⟨by show 21<=KJ ([98],20454);decide,by show KJ ([98],20454)<22;decide⟩
  have g:=hi.add (es:=es) λd' m=>by rw[hd,mem_singleton]at m;rw[m];exact .pay i x mode q (by omega) q0 q6 q7 y
  refine j _ _ ⟨i+1,A',c',xs++es,a++es,G',E7,by omega,rfl,⟨g.mem,g.ok,g.ins,g.scw,g.scs,g.rul,λ_=>?_⟩,f.add hd l.1 l.2,by rw[length_append];omega,K7⟩ ?_
  ·by_cases h:0<i
   ·exact g.pay h
   obtain rfl:i=0:=by omega
   exact⟨x,mode,q,by rw[map_append,hd];simp⟩
  show 3-AP (J ((i+1:Nat):Int))<3-AP (J (i:Int));simp only[AP];omega
 have p:0<i:=by have:=of_decide_eq_false hc;omega
 refine AC Vv K4 [] λw5 t=>?_;refine AX (AC8 b w++[(133,Z b)]) λE5=>?_;refine AGU n ?_ (by omega) ⟨hi.mem,hi.ok,hi.ins,hi.scw,hi.scs,hi.rul,λ_=>hi.pay p⟩ (f.up (by omega)) (t.pk [0,1] [0,1,2,3]) hR;have:=hi.ins _ (mem_cons_self ..)
 cases xs with
 | nil=>cases this
 | cons x r=>exact Nat.succ_pos _
theorem AC1 {R:Ending->World->Prop} {b:Nat} {ns:List Int} {H:Nat} {wl:Bool} {w w0 w1:World} {A:Option Addr} {c:Nat} {xs a:List Ep} {G:Nat->Prop} {E:Nat->Value} {j g:Nat} (hH:0<H) (e0:H<=1000) (y:(U w0)=b) (hl:xs.length<=8) (hi:JN H wl 0 0 xs a) (f:IP 10 xs) (K:Wk w0 w1 (KL w A xs.length c j g) (EO w0 b ns w A c xs G a) []) (hR:∀(A:Option Addr) (c:Nat) (xs a:List Ep) (G:Nat->Prop) (M:List Ax) w',JN H wl 4 1 xs a->IP 30 xs->xs.length<=30->Wk w0 w' M (EO w0 b ns w A c xs G a) []->R (.returned (D [Y Cj,V A xs.length c])) w'):At Tryz.prog 5 R UE (Fr 168 (BN E (Ui b H wl w j g ((0:Nat):Int)))) w1:=by
 refine Bp (by kernel_rfl) (λE wx=>∃(i:Nat) (A:Option Addr) (c:Nat) (xs a:List Ep) (G:Nat->Prop) (E0:Nat->Value),i<=4/\E=BN E0 (Ui b H wl w j g (i:Int))/\JN H wl i 0 xs a/\IP (10+2*i) xs/\xs.length<=8+2*i/\Wk w0 wx (KL w A xs.length c j g) (EO w0 b ns w A c xs G a) []) (λE _=>5-AP (E 10)) ⟨0,A,c,xs,a,G,E,by omega,rfl,hi,f,hl,K⟩ ?_;clear K hi hl f;rintro E wx ⟨i,A,c,xs,a,G,E0,k0,rfl,hi,f,hl,K1⟩ q;refine AC V0 K1 [] λw2 s=>?_;refine AH (decide ((i:Int)<4)) (λhc=>?_) (λhc=>?_)
 ·have c0:i<4:=by have:=of_decide_eq_true hc;omega
  have l:∀(n:Int) (E:Nat->Value) (u:World),(n=(i:Int)+1\/(wl=true/\n=5))->Wk w0 u (KL w A xs.length c j g) (EO w0 b ns w A c xs G a) []->At Tryz.prog 5 R Kv (Fr 168 (BN E (Ik b H wl w j g (i:Int) n ((0:Nat):Int)))) u:=λn E u hn m=>by
   refine Bp (by kernel_rfl) (λE wx=>∃(v:Nat) (A:Option Addr) (c:Nat) (xs a:List Ep) (G:Nat->Prop) (E0:Nat->Value),v<=2/\E=BN E0 (Ik b H wl w j g (i:Int) n (v:Int))/\JN H wl i 0 xs a/\IP (10+2*i+v) xs/\(0<v->∃x,GG i 20454 x∈xs.map (·.1))/\xs.length<=8+2*i+v/\Wk w0 wx (KL w A xs.length c j g) (EO w0 b ns w A c xs G a) []) (λE _=>3-AP (E 12)) ⟨0,A,c,xs,a,G,E,by omega,rfl,hi,f,λh=>absurd h (by omega),hl,m⟩ ?_;clear K1 s m hi hl f;rintro E wx ⟨v,A,c,xs,a,G,E0,i0,rfl,hi,f,b0,hl,K1⟩ o;refine AC j2 K1 [] λw2 s=>?_;refine BS s y 0 rfl (Be b ns 3 _ (s.tapeOk y 0 rfl) (by omega) (by omega)) Bl.ok λe w3 hq m=>?_;obtain⟨k,hk,rfl,_,_⟩:=hq;refine⟨_,rfl,?_⟩;refine AC j1 m [] λw4 K4=>?_;refine AH (decide ((v:Int)<=IntKind.i64.wrap (Int.tdiv (k:Int) 2))) (λhc=>?_) (λhc=>?_)
   ·have j0:v<=1:=by
     have h1:=of_decide_eq_true hc;have h2:k=0\/k=1\/k=2:=by omega
     have h3:IntKind.i64.wrap (Int.tdiv (k:Int) 2)<=1:=by rcases h2 with rfl | rfl | rfl<;>decide
     omega
    refine AC Vy K4 [] λw5 p=>?_;refine AX (Ik b H wl w j g (i:Int) n (v:Int)) λE5=>?_;refine AC5 (wl:=wl) c0 hH e0 y (by omega) p λA' c' es G' z t hq he r=>?_;refine AC (Ab Kv) r [] λw7 K7=>?_;refine AX (Ik b H wl w j g (i:Int) n (IntKind.i64.wrap ((v:Int)+1))) λE7=>?_;rw[show IntKind.i64.wrap ((v:Int)+1)=((v+1:Nat):Int) by rw[IntWalk.i64_in _ (by omega)];omega];obtain⟨d,hd,x,rfl,q8⟩:=hq;have a0:10+2*i+v<=KJ (G6 (GG i (IntKind.i64.wrap (20454+IntKind.i64.wrap (5*(v:Int)))) x))/\KJ (G6 (GG i (IntKind.i64.wrap (20454+IntKind.i64.wrap (5*(v:Int)))) x))<10+2*i+(v+1):=by
     show 10+2*i+v<=KJ (PE.getD i [],IntKind.i64.wrap (20454+IntKind.i64.wrap (5*(v:Int))))/\KJ (PE.getD i [],IntKind.i64.wrap (20454+IntKind.i64.wrap (5*(v:Int))))<10+2*i+(v+1);obtain rfl | rfl:v=0\/v=1:=by omega
     all_goals
      obtain rfl | rfl | rfl | rfl:i=0\/i=1\/i=2\/i=3:=by omega
      all_goals decide
    have h1:=hi.add (es:=es) λd' d0=>by
     rw[hd,mem_singleton]at d0;rw[d0];refine .rule i _ x n c0 ?_ hn q8;obtain rfl | rfl:v=0\/v=1:=by omega
     ·exact .inl (by decide)
     exact .inr (by decide)
    refine o _ _ ⟨v+1,A',c',xs++es,a++es,G',E7,by omega,rfl,h1,f.add hd a0.1 a0.2,λ_=>?_,by rw[length_append];omega,K7⟩ ?_
    ·by_cases h:0<v
     ·obtain⟨x',h2⟩:=b0 h;exact⟨x',by rw[map_append];exact mem_append_left _ h2⟩
     obtain rfl:v=0:=by omega
     refine⟨x,?_⟩;rw[map_append,hd];exact mem_append_right _ (mem_singleton.2 (by rw[show IntKind.i64.wrap (20454+IntKind.i64.wrap (5*((0:Nat):Int)))=20454 by decide]))
    show 3-AP (J ((v+1:Nat):Int))<3-AP (J (v:Int));simp only[AP];omega
   have g0:0<v:=by
    have h1:=of_decide_eq_false hc;have h2:k=0\/k=1\/k=2:=by omega
    have h3:0<=IntKind.i64.wrap (Int.tdiv (k:Int) 2):=by rcases h2 with rfl | rfl | rfl<;>decide
    omega
   refine AC (Ab UE) K4 [] λw5 p=>?_;refine AX (Ui b H wl w j g (IntKind.i64.wrap ((i:Int)+1))) λE5=>?_;rw[show IntKind.i64.wrap ((i:Int)+1)=((i+1:Nat):Int) by rw[IntWalk.i64_in _ (by omega)];omega];refine q _ _ ⟨i+1,A,c,xs,a,G,E5,by omega,rfl,⟨hi.mem,hi.ok,hi.ins,hi.scw,hi.scs,λk hk=>?_,λh=>absurd h (by omega)⟩,f.up (by omega),by omega,p⟩ ?_
   ·by_cases h:k<i
    ·exact hi.rul k h
    obtain rfl:k=i:=by omega
    exact b0 g0
   show 5-AP (J ((i+1:Nat):Int))<5-AP (J (i:Int));simp only[AP];omega
  have plain:∀(E:Nat->Value) (u:World),Wk w0 u (KL w A xs.length c j g) (EO w0 b ns w A c xs G a) []->At Tryz.prog 5 R Kv (Fr 168 (BN E (Ik b H wl w j g (i:Int) (IntKind.i64.wrap ((i:Int)+1)) ((0:Nat):Int)))) u:=λE u m=>by rw[IntWalk.i64_in ((i:Int)+1) (by omega)];exact l _ E u (.inl rfl) m
  cases wl with
  | true=>
   refine AC j3 s [] λw3 m=>?_;refine BS m y 0 rfl (Be b ns 4 _ (m.tapeOk y 0 rfl) (by omega) (by omega)) Bl.ok λe w4 hq K4=>?_;obtain⟨k,hk,rfl,_,_⟩:=hq;refine⟨_,rfl,?_⟩;refine AC Vz K4 [] λw5 p=>?_;refine AH ((k:Int)==3) (λ_=>?_) (λ_=>?_)
   ·refine AC Kv p [] λt r=>?_;refine AX (Ik b H true w j g (i:Int) 5 ((0:Nat):Int)) λz=>?_;exact l 5 z t (.inr ⟨rfl,rfl⟩) r
   refine AC Kv p [] λt r=>?_;refine AX (Ik b H true w j g (i:Int) (IntKind.i64.wrap ((i:Int)+1)) ((0:Nat):Int)) λz=>?_;exact plain z t r
  | false=>
   refine AC Vz s [] λw5 p=>?_;refine AH false (λh=>absurd h Bool.false_ne_true) (λ_=>?_);refine AC Kv p [] λt r=>?_;refine AX (Ik b H false w j g (i:Int) (IntKind.i64.wrap ((i:Int)+1)) ((0:Nat):Int)) λz=>?_;exact plain z t r
 obtain rfl:i=4:=by have:=of_decide_eq_false hc;omega
 refine AC Qd s [] λw3 m=>?_;refine AX (Ke b H w ((0:Nat):Int)) λE3=>?_;exact AC6 hH e0 y hl hi (f.up (by decide)) m hR
structure YY (ds:List Df):Prop where
 ins:∀d∈Fa,d∈ds
 scw:∃es,FZ es/\Ci [119] CH 20454 es∈ds
 scs:∃es,FZ es/\Ci [115] BT 20454 es∈ds
 rul:∀k,k<4->∃x,GG k 20454 x∈ds
 pay:∃x mode q,Ip 0 x mode q∈ds
 nod:(ds.map G6).Nodup
def oe (b:Nat) (ns:List Int) (H:Nat) (wl:Bool) (w:World) (e:Ending) (w':World):Prop:=∃A c ds,e=.returned (D [Y Cj,V A ds.length c])/\(∃rs,∀u,CU b w' u->FB Cg u ds rs/\DF Cg u 21 A rs)/\ds.length<=c/\ds.length<=30/\(∀d∈ds,IZ H wl d)/\YY ds/\Br b ns w'/\CU b w w'
def IQ:List Ep:=Fa.map λd=>(d,CL d none 0 none 0)
theorem xp:∀x∈IQ,∀(G:Nat->Prop) (u:World),Ff G u x.1 x.2:=λx hx G u=>by
 obtain⟨d,hd,rfl⟩:=mem_map.1 hx;have h:d.ents=[]/\d.body=BU:=by simp only[Fa,mem_cons,not_mem_nil,or_false]at hd;rcases hd with rfl | rfl | rfl | rfl | rfl<;>exact⟨rfl,rfl⟩
 have a:Ad d.body none 0=Ad BU none 0:=by rw[h.2]
 refine ST h.1 ?_;rw[h.2];exact Zg
theorem AC7 {b:Nat} {ns:List Int} {H:Nat} {wl:Bool} {w w0 w':World} {A:Option Addr} {c:Nat} {xs a:List Ep} {G:Nat->Prop} {M:List Ax} (f:w0.heap.size=b) (hw:Below w0.heap.size w0 w) (hb:b<w.heap.size) (hi:JN H wl 4 1 xs a) (n:IP 30 xs) (hl:xs.length<=30) (K:Wk w0 w' M (EO w0 b ns w A c xs G a) []):oe b ns H wl w (.returned (D [Y Cj,V A xs.length c])) w':=by
 refine⟨A,c,xs.map (·.1),by rw[length_map],?_,?_,by rw[length_map];exact hl,λd hd=>?_,⟨hi.ins,hi.scw,hi.scs,hi.rul,hi.pay (by decide),by rw[map_map];exact n.1⟩,K.tapeOk f 0 rfl,(K.out f hw).2⟩
 ·obtain⟨rs,y,h2⟩:=K.H.rows (λ_ _ h=>h.2.1) (K.ix 2) (K.at 2 rfl);have ht:(Lq G a).P w':=K.H.all (K.ix 3) _ (K.at 3 rfl);have hG:∀g,G g->g<w'.heap.size/\g≠b:=λg hg=>⟨(K.H.lo (K.ix 3) _ (K.at 3 rfl) g hg).2,by have:=K.newerT f 1 (t:=Lq G a) rfl hg;omega⟩;refine⟨rs,λu hu=>?_⟩;have p:∀(l:List Ep) (rs:List (List Value)),(∀x∈l,x∈a)->Dh Oi l rs->FB Cg u (l.map (·.1)) rs:=by
   intro l
   induction l with
   | nil=>intro rs _ h;cases rs with
    | nil=>rfl
    | cons r q=>cases h
   | cons x l ih=>intro rs hm h;cases rs with
    | nil=>cases h
    | cons r q=>
     refine⟨r,q,rfl,?_,ih q (λx hx=>hm x (by simp[hx])) h.2⟩;rw[h.1.1];exact(ht x (hm x (by simp))).keep hu.size λg hg m=>⟨trivial,hu.block g m (hG g hg).2⟩
  refine⟨p xs rs hi.mem y,?_⟩;rcases h2 with h2 | ⟨g,off,hA,h3,e,s⟩
  ·exact .inl h2
  have o:g≠b:=by
   have hx:0<xs.length:=by
    have:=hi.ins _ (mem_cons_self ..)
    cases xs with
    | nil=>cases this
    | cons x r=>exact Nat.succ_pos _
   obtain⟨g',h6,_⟩:=K.H.rowAt (K.ix 2) (K.at 2 rfl) hx;rw[hA]at h6;obtain⟨rfl,rfl⟩:g=g'/\off=0:=by simpa using h6
   have:=K.newerT f 0 (t:=PV A c xs) rfl (k:=g) (by rw[hA];exact(rfl:some (⟨g,0,none⟩:Addr)=θ g));omega
  refine .inr ⟨g,off,hA,trivial,Nat.lt_of_lt_of_le e hu.size,λi r hr j v hv=>?_⟩;have z:=s i r hr j v hv;unfold World.cell? at z ⊢;rw[hu.block g e o];exact z
 ·obtain⟨rs,y,h2⟩:(PV A c xs).P w':=K.H.all (K.ix 2) _ (K.at 2 rfl);have h3:rs.length=xs.length:=GW y;rw[length_map];rcases h2.2 with⟨e,s⟩ | ⟨g,cap,a0,e,_,_,s,_⟩
  ·omega
  cases e
  omega
 obtain⟨x,hx,rfl⟩:=mem_map.1 hd;exact hi.ok x hx
theorem AIK (b:Nat) (ns:List Int) (H:Nat) (wl:Bool) (hH:0<H) (e0:H<=1000) (w:World) (hT:Br b ns w):Calls Tryz.prog 5 ([Z b,J (H:Int),I wl]:List Value).toArray w (oe b ns H wl w):=by
 refine AS (fn:=Tryz.f5) (c:=aU) (n:=168) ?_;obtain⟨w0,l,K0⟩:=Wk.tape hT;have hw:=K0.B;have hb:=hT.lt;refine An so [N (U w) [Y [],V none 0 0] 27,N (U w+1) [Y Cj,V none 0 0] 27] K0 [(1,0)] λw1 K1=>?_;refine AW K1 (args:=[]) (Iv _) λw2 K2=>?_;refine AC sm K2 [] λw3 K3=>?_;refine AW K3 (args:=[]) (La _) λw4 K4=>?_;refine AC sl K4 [] λw5 K5=>?_;refine AW K5 (args:=[]) (Gw _) λw6 K6=>?_;refine AC sk K6 [] λw7 K7=>?_;refine AW K7 (args:=[]) (Iv _) λz Kz=>?_;refine An UF [N (U w) [Y [],V none 0 0] 27,N (U w+1) [Y Cj,V (some ⟨U z,0,none⟩) 5 5] 27,N (U z) ((IQ.map (·.2)).flatten) 72] Kz [(1,1)] λw8 K8=>?_;have J8:=K8.entRows (n:=21) 2 Oi IQ (IQ.map (·.2)) ⟨⟨rfl,rfl,rfl⟩,⟨rfl,rfl,rfl⟩,⟨rfl,rfl,rfl⟩,⟨rfl,rfl,rfl⟩,⟨rfl,rfl,rfl⟩,trivial⟩ rfl (by decide) (by decide) rfl;have I8:Wk w0 w8 [N (U w) [Y [],V none 0 0] 27,N (U w+1) [Y Cj,V (some ⟨U z,0,none⟩) 5 5] 27] (EO w0 b ns w (some ⟨U z,0,none⟩) 5 IQ (λ_=>False) IQ) []:=J8.freshT J8 (Lq (λ_=>False) IQ) (λx hx=>xp x hx _ _) (λ_ h=>h.elim);refine AX (MQ b H wl w) λE8=>?_;refine AGW (H:=H) (wl:=wl) l (show IQ.length<=100 by decide) I8 λA c es G E9 w9 hq he K9=>?_;obtain⟨e1,e2,a,o1,o2⟩:=hq;have hi:JN H wl 0 0 (IQ++es) (IQ++es):=by
  refine⟨λx hx=>hx,λx hx=>?_,λd hd=>?_,⟨e1,o1,?_⟩,⟨e2,o2,?_⟩,λk hk=>absurd hk (by omega),λh=>absurd h (by omega)⟩
  ·rcases mem_append.1 hx with hx | hx
   ·obtain⟨d,hd,rfl⟩:=mem_map.1 hx;exact .ins d hd
   have:=mem_map_of_mem (f:=(·.1)) hx;rw[a]at this;simp only[mem_cons,not_mem_nil,or_false]at this;rcases this with h | h
   ·show IZ H wl x.1;rw[h];exact .sc _ _ _ e1 (.inl ⟨rfl,rfl⟩) (.inl rfl) o1
   show IZ H wl x.1;rw[h];exact .sc _ _ _ e2 (.inr ⟨rfl,rfl⟩) (.inl rfl) o2
  ·rw[map_append];exact mem_append_left _ (by rw[IQ,map_map];exact mem_map.2 ⟨d,hd,rfl⟩)
  ·rw[map_append,a];simp
  rw[map_append,a];simp
 have q:IP 8 (IQ++es):=by
  have d0:(es.map λx=>G6 x.1)=[([119],20454),([115],20454)]:=by rw[show(es.map λx=>G6 x.1)=(es.map (·.1)).map G6 by rw[map_map];rfl,a];rfl
  have p:((IQ++es).map λx=>G6 x.1)=[([104],0),([103],0),([102],0),([103,114,111,115,115],0),([116,105,109,101],0),([119],20454),([115],20454)]:=by rw[map_append,d0];rfl
  refine⟨by rw[p];decide,λx hx=>?_⟩;have h:=mem_map_of_mem (f:=λx:Ep=>G6 x.1) hx;rw[p]at h;have:∀k∈([([104],0),([103],0),([102],0),([103,114,111,115,115],0),([116,105,109,101],0),([119],20454),([115],20454)]:List (List UInt8×Int)),KJ k<8:=by decide
  exact this _ h
 have g:∀(A:Option Addr) (c:Nat) (xs y:List Ep) (G:Nat->Prop) (E:Nat->Value) (s:Nat) (u:World),JN H wl 0 0 xs y->IP 10 xs->xs.length<=8->Wk w0 u [N (U w) [Y [],V none 0 0] 27,N (U w+1) [Y Cj,V A xs.length c] 27,N s [Y [114,49],Y [114,50],Y [114,51],Y [114,52]] 9] (EO w0 b ns w A c xs G y) []->At Tryz.prog 5 (oe b ns H wl w) MZ (Fr 168 (BN E ((MQ b H wl w)++[(51,φ s 4 4)]))) u:=λA c xs y G E s u hi c0 hl Ku=>by refine AW Ku (args:=[]) (Gv _) λv1 J1=>?_;refine AC (AD MZ) J1 [] λv2 J2=>?_;refine AW J2 (args:=[]) (Gw _) λv3 J3=>?_;refine AC (AD (AD MZ)) J3 [] λv4 J4=>?_;refine AW J4 (args:=[]) (La _) λv5 J5=>?_;refine AC (AD (AD (AD MZ))) J5 [] λv6 J6=>?_;refine AW J6 (args:=[]) (Hf _) λv7 J7=>?_;refine An UE (KL w A xs.length c s (U v7)) J7 [] λv8 J8=>?_;refine AX (Ui b H wl w s (U v7) ((0:Nat):Int)) λE8=>?_;exact AC1 hH e0 l hl hi c0 J8 λA c xs y G M w' h1 h4 h2 h3=>AC7 l hw hb h1 h4 h2 h3
 have h7:(IQ++es).length=7:=by rw[length_append,he];rfl
 refine AC sj K9 [] λp0 v=>?_;refine BS v l 0 rfl (Be b ns 3 _ (v.tapeOk l 0 rfl) (by omega) (by omega)) Bl.ok λe m0 hq k0=>?_;obtain⟨k,hk,rfl,_,_⟩:=hq;refine⟨_,rfl,?_⟩;refine AC co k0 [] λo t=>?_;refine AH ((k:Int)==0) (λ_=>?_) (λ_=>?_)
 ·refine AC cl t [] λl0 j0=>?_;refine AX (MQ b H wl w) λt0=>?_;refine AGV (H:=H) (wl:=wl) l (by omega) j0 λA' c' g0 G' r0 m b0 q0 i0=>?_;obtain⟨d,hd,e3,rfl,o3⟩:=b0;refine An MZ [N (U w) [Y [],V none 0 0] 27,N (U w+1) [Y Cj,V A' ((IQ++es)++g0).length c'] 27,N (U m) [Y [114,49],Y [114,50],Y [114,51],Y [114,52]] 9] i0 [] λa0 i=>?_;refine AX ((MQ b H wl w)++[(51,V (some ⟨U m,0,none⟩) 4 4)]) λj=>?_;refine g _ _ _ _ _ j _ _ (hi.add λd' r=>?_) (q.add hd (by show 8<=KJ ([119],20459);decide) (by show KJ ([119],20459)<10;decide)) (by rw[length_append];omega) i;rw[hd,mem_singleton]at r;rw[r];exact .sc _ _ _ e3 (.inl ⟨rfl,rfl⟩) (.inr rfl) o3
 refine An MZ [N (U w) [Y [],V none 0 0] 27,N (U w+1) [Y Cj,V A (IQ++es).length c] 27,N (U o) [Y [114,49],Y [114,50],Y [114,51],Y [114,52]] 9] t [] λa0 i=>?_;refine AX ((MQ b H wl w)++[(51,V (some ⟨U o,0,none⟩) 4 4)]) λj=>?_;exact g _ _ _ _ _ j _ _ hi (q.up (by decide)) (by omega) i
end Go.Proofs.YtkpemkkbjfbmaaaGreat
namespace Go.Proofs.YtkpemkkbjfbmaaaGreat
open List
open Go.RowKit
set_option maxRecDepth 100000
set_option maxHeartbeats 1000000
attribute [local irreducible] BI BQ AD AE AG Au Ab AO A8 Bi Ct BX BO At Fr
def Xg (p0:Int):Int×Int:=(p0,1)
def mh (r:Int×Int):Value:=D [J (r.1),J (r.2)]
noncomputable def Zq:Code:=Tryz.f126.body.getD .skip
noncomputable def ADM:=ν ([.code Zq])
theorem Lv (a:Int) (w:World):Calls Tryz.prog 126 ([J a]:List Value).toArray w λe w'=>e=.returned (mh (Xg a))/\Below (U w) w w':=by refine AS (fn:=Tryz.f126) (c:=Zq) (n:=5) ?_;have d:=Wk.start w;refine Ar ADM d [(0,0)] λf b=>?_;exact AQ b (0,0) _ (by unfold Xg;rfl)
end Go.Proofs.YtkpemkkbjfbmaaaGreat

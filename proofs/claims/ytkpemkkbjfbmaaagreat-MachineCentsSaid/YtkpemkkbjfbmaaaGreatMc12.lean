/- Contracts of functions, part 12. -/
import Derived.Test.YtkpemkkbjfbmaaaGreatMc11
import Derived.StringKeys
import Derived.Test.YtkpemkkbjfbmaaaGreatMc02
import Derived.Test.YtkpemkkbjfbmaaaGreatMc07
import Derived.Test.YtkpemkkbjfbmaaaGreatMc01
set_option linter.all false
namespace Go.Proofs.YtkpemkkbjfbmaaaGreat
open List
noncomputable section
open Go.RowKit
set_option maxRecDepth 100000
set_option maxHeartbeats 1000000
attribute [local irreducible] BI BQ AD AE AG Au Ab AO A8 Bi Ct BX BO At Fr
theorem DR {α:Type} [Inhabited α] {l:List α} {i:Nat} (h:i<l.length):l.getD i default∈l:=mem_of_getElem? (getD_some default h)
theorem RF (x:Ex):(Bm [] x).length<=nE x:=by simpa using Mf [] x
theorem NM {ds:List Df} {x:Ex} {P:Nat->Prop}:∀(act:List Nat) (a:Int) (b:Bool),(∀i∈act,P i)->(!(Cs ds x act a b).2)=false->P (Cs ds x act a b).1
 | [],a,b,_,h=>by rw[Cs]at h;cases h
 | e::es,a,b,hp,h=>by
  rw[Cs]at h ⊢
  revert h
  cases (cond (cond (cond (x.op==3) (BM (κ ds e)) (false)) (true) (cond (x.op==4) ((κ ds e).kind==2) (false))) (decide ((κ ds e).name=x.nm)) (false))<;>intro h
  ·exact NM es a b (λi hi=>hp i (by simp[hi])) h
  exact hp e (by simp)
theorem NL {ds:List Df} {x:Ex} {P:Nat->Prop}:∀(act:List Nat) (a:Int) (b:Bool),(∀i∈act,P i)->(!(C9 ds x act a b).2)=false->P (C9 ds x act a b).1
 | [],a,b,_,h=>by rw[C9]at h;cases h
 | e::es,a,b,hp,h=>by
  rw[C9]at h ⊢
  revert h
  cases (cond (cond (cond (x.op==3) (BM (κ ds e)) (false)) (true) (cond (x.op==4) ((κ ds e).kind==2) (false))) (decide ((κ ds e).name=x.nm)) (false))<;>intro h
  ·exact NL es a b (λi hi=>hp i (by simp[hi])) h
  exact hp e (by simp)
theorem NN {ds:List Df} {x:Ex} {act:List Nat} (c:∀i∈act,i<ds.length):∀(es:List Df) (i:Nat) (a:Int) (b:Bool),i+es.length=ds.length->(!(Cl ds act x es i a b).2)=false->(Cl ds act x es i a b).1<ds.length
 | [],i,a,b,_,h=>by rw[Cl]at h ⊢;exact NM (P:=λi=>i<ds.length) act a b c h
 | e::es,i,a,b,hl,h=>by
  rw[length_cons]at hl;rw[Cl]at h ⊢
  revert h
  cases (cond (e.kind==1) (decide (e.name=x.nm)) (false))<;>intro h
  ·exact NN c es (i+1) a b (by omega) h
  show i<ds.length;omega
theorem Mt {ds:List Df} {x:Ex} {act:List Nat} (a:∀i∈act,i<ds.length) (h:(!(Az ds act x).2)=false):(Az ds act x).1<ds.length:=by
 unfold Az at h ⊢
 revert h
 cases x.op==3<;>intro h
 ·exact NL (P:=λi=>i<ds.length) act 0 false a h
 exact NN a ds 0 0 false (Nat.zero_add _) h
def DV (ds:List (Df)) (act:List (Nat)):List (Ex)->Int->List Nat->List Nat×Int
 | [],a0_0,a0_1=>((FC (Gg a0_1)),0)
 | e0::tl,a0_0,a0_1=>cond (!(((Az ds act e0)).2)) (([],7)) (cond (BM ((ds.getD ((Az ds act e0)).1 default))) (DV ds act tl a0_0 (a0_1++[((Az ds act e0)).1])) (DV ds act tl a0_0 a0_1))
theorem Tj {ds:List (Df)} {act:List (Nat)} {b:Int} {a:List Nat}:DV ds act [] b a=(((FC (Gg a)),0)):=by rw[DV]
theorem SN {ds:List (Df)} {act:List (Nat)} {b:Int} {a:List Nat} {es:List (Ex)} (i:Nat) (c:Ex) (hi:es[i]?=some c):DV ds act (es.drop i) b a=(cond (!(((Az ds act c)).2)) (([],7)) (cond (BM ((ds.getD ((Az ds act c)).1 default))) (DV ds act (es.drop (i+1)) b (a++[((Az ds act c)).1])) (DV ds act (es.drop (i+1)) b a))):=by have hl:i<es.length:=(List.getElem?_eq_some_iff.1 hi).1;have he:es[i]=c:=(List.getElem?_eq_some_iff.1 hi).2;rw[<-getElem_cons_drop hl,DV]<;>(try rw[he])
def Cu (ds:List (Df)) (act:List (Nat)) (i:Nat):List Nat×Int:=DV ds act ((Bm [] ((ds.getD i default).body))) 0 ([])
noncomputable def YB:Code:=Tryz.f90.body.getD .skip
def pq:=AB (Aq Aa 90 ([.code YB])) ([.code YB])
def ABe:=AB (Aq (Oc 70) 90 (AD pq)) (AD pq)
def ABd:=ν (AD (ABe))
def eq:=Ψ ABd
def ep:=ν (Au eq)
def ABc:=AB (Aq Aa 90 (AE ep)) (AE ep)
def ABb:=ν (AD (AD ABc))
def em:=Ψ ABb
def AHl:=Θ em
def ABa:=AB (Aq Aa 90 (AG em)) (AG em)
def vJ:=ν (AD (AD ABa))
def et:=Ψ vJ
def vI:=AB (Aq BH 90 (AE et)) (AE et)
def vH:=Ξ ep
def vG:=Ψ vH
def AFa:=Ψ vG
theorem mR (t:List UInt8) (v0:Option Addr) (ds:List (Df)) (j:Nat) (z:Option Addr) (act:List (Nat)) (h0 i:Nat) (w:World) (w0:rowsDf w v0 ds) (s2:ds.length<=4294967296) (b1:rowsNat w z act) (k2:act.length<=4294967296) (x:i<ds.length) (a1:∀i∈act,i<ds.length) (b2:∀d∈ds,EB d.body) (hn:∀d∈ds,nE d.body<=1000000):Calls Tryz.prog 90 ([D [Y t,V v0 ds.length j],V z act.length h0,J ((i:Int))]:List Value).toArray w λe w'=>∃(y1:Option Addr) (x1:Nat),e=.returned (.tuple #[V y1 ((((Cu ds act i)).1).length) x1,J (((Cu ds act i)).2)])/\Below w.heap.size w w'/\AY w.heap.size w' [Bc y1 x1 (((Cu ds act i)).1)]:=by
 refine AS (fn:=Tryz.f90) (c:=YB) (n:=49) ?_;have K1:=Wk.start w;obtain⟨m,o,rfl,x0,z0⟩:=w0.all (by omega);have u2:ds[i]?=some (ds.getD i default):=getD_some default x;obtain⟨f3,z2,d0,b0,a2,y2,f1⟩:=z0 i _ u2;refine Bn Aa pq [N w.heap.size [Y t,V (some ⟨m,o,none⟩) ds.length j] 27] K1 [(0,1)] λw1 K2=>?_;refine Aw (g:=m) (off:=o) (cap:=j) (sz:=21) (k:=i) (len:=ds.length) (some 16) x Tryz.underlying25 ?_;refine Ao (Oc 70) ABe K2 [] λw2 K3=>?_;refine Bd 70 m (o+i*21+8) (ω ((ds.getD i default).body) d0 b0) (some 18) (KO (Aj a2 x0 K3.B) 8 _ rfl) ?_;refine AC ABd K3 [] λw3 K4=>?_;have K5:=K4.addNil 70 10 (DD Cg w);have Kf:=(K5.pickL (L':=[(Fu w none 0 ([]))]++[]) [0] rfl (by decide)).front;refine BL (args:=[V none 0 0,D ((ω ((ds.getD i default).body) d0 b0))]) (XF _ _ none [] 0 ((ds.getD i default).body) d0 b0 w w3 f1 (Nat.le_refl _) (b2 _ (DR x)) (by have:=hn _ (DR x);simp only[length_nil];omega) K5.B Kf) λen w5 hh=>?_;obtain⟨s,l,rfl,b5,Hn⟩:=hh;refine⟨_,rfl,?_⟩;have K6:=Wk.unfront b5 Hn;have q4:=RF ((ds.getD i default).body);have n4:=hn _ (DR x);refine AC eq K6 [] λw6 K7=>?_;have K8:Wk w w6 [N w.heap.size [Y t,V (some ⟨m,o,none⟩) ds.length j] 27] [(Fu w s l ((Bm [] ((ds.getD i default).body))))] []:=K7.pk [0] [0];have K9:=K8.addNil 3 1 (λe r=>r=F7 e);have u:(Cu ds act i)=DV ds act ((Bm [] ((ds.getD i default).body))) 0 ([]):=by unfold Cu;rfl
 refine AX [(1,V z act.length h0),(3,Z (w.heap.size)),(6,V none 0 0),(7,J 0),(8,V none 0 0),(19,V s (((Bm [] ((ds.getD i default).body))).length) l),(20,J ((((Bm [] ((ds.getD i default).body))).length:Int))),(21,J (((0:Nat):Int)))] λE7=>?_;refine Bp (by kernel_rfl) (λE s1=>∃(q:Nat) (p:Int) (a:List Nat) (f:Option Addr) (b:Nat) (E0:Nat->Value),q<=((Bm [] ((ds.getD i default).body))).length/\E=BN E0 [(1,V z act.length h0),(3,Z (w.heap.size)),(6,V none 0 0),(7,J p),(8,V f a.length b),(19,V s (((Bm [] ((ds.getD i default).body))).length) l),(20,J ((((Bm [] ((ds.getD i default).body))).length:Int))),(21,J ((q:Int)))]/\(Cu ds act i)=DV ds act (List.drop q ((Bm [] ((ds.getD i default).body)))) p a/\a.length<=1*q+0/\Wk w s1 [N w.heap.size [Y t,V (some ⟨m,o,none⟩) ds.length j] 27] [(Fu w s l ((Bm [] ((ds.getD i default).body)))),(Bc f b a)] []) (λE _=>((Bm [] ((ds.getD i default).body))).length-AP (E 21)) ⟨0,0,([]),none,0,E7,Nat.zero_le _,rfl,u,by simp,K9⟩ ?_;clear u;rintro E s1 ⟨q,p,a,f,b,E0,t4,rfl,u,x2,r3⟩ y;refine AC ep r3 [] λw9 m0=>?_;refine AH (decide ((q:Int)<(((Bm [] ((ds.getD i default).body))).length:Int))) (λl1=>?_) (λl1=>?_)
 ·have g0:q<(Bm [] ((ds.getD i default).body)).length:=by have:=of_decide_eq_true l1;omega
  obtain⟨v,d2⟩:∃e,((Bm [] ((ds.getD i default).body)))[q]?=some e:=⟨_,getElem?_eq_getElem g0⟩;rw[SN q v d2]at u;obtain⟨j0,rfl,v3⟩:=m0.H.rowAt (m0.ix 0) (m0.at 0 rfl) (by omega);refine Ao Aa ABc m0 [] λv1 t0=>?_;refine Aw (g:=j0) (off:=0) (cap:=l) (sz:=10) (k:=q) (len:=((Bm [] ((ds.getD i default).body))).length) (some 23) g0 Tryz.underlying68 ?_;obtain⟨r9,r2,v2⟩:=t0.H.cells (λ_ _ h=>Zh h) (t0.ix 0) (t0.at 0 rfl) d2;obtain⟨c0,a0,rfl,e1⟩:=my r2;refine Bd 70 j0 (0+q*10) _ (some 24) v2 ?_;refine An ABb [N w.heap.size [Y t,V (some ⟨m,o,none⟩) ds.length j] 27,N v1.heap.size ((Ad v c0 a0)) 70] t0 [(1,0),(0,0),(1,0)] λq2 r0=>?_;refine BL (Yq t (some ⟨m,o,none⟩) ds j z act h0 v c0 a0 q2 (w0.below r0.B) (by first | assumption | omega | (simp<;>omega)) (b1.below r0.B) (by first | assumption | omega | (simp<;>omega)) (e1.below r0.B) a1) λen k4 hh=>?_;obtain⟨rfl,e3⟩:=hh;refine⟨_,rfl,?_⟩;have q3:=r0.below e3;refine AC em q3 [] λh4 i2=>?_;refine AH (!(((Az ds act v)).2)) (λq0=>?_) (λq0=>?_)
  ·have p3:=i2.addNil 3 1 (λe r=>r=F7 e);refine AC AHl p3 [] λg4 q1=>?_;have hS:(Cu ds act i)=([],7):=by rw[u,q0]<;>rfl
   exact AN q1 (0,0) (.tuple #[V none 0 0,J 7]) ⟨none,0,by rw[hS]<;>rfl,q1.B,by rw[hS];exact q1.own0 [2] rfl (by decide)⟩
  have t2:ds[((Az ds act v)).1]?=some (ds.getD ((Az ds act v)).1 default):=getD_some default (Mt a1 (by assumption));obtain⟨n1,h1,m1,g1,z1,d1,c1⟩:=z0 ((Az ds act v)).1 _ t2;refine Ao Aa ABa i2 [(0,1)] λe4 h2=>?_;refine Aw (g:=m) (off:=o) (cap:=j) (sz:=21) (k:=(((Az ds act v)).1)) (len:=ds.length) (some 37) (Mt a1 (by assumption)) Tryz.underlying25 ?_;refine Bd 72 m (o+((Az ds act v)).1*21) _ (some 38) (Aj z1 x0 h2.B) ?_;refine AC vJ h2 [] λp2 p1=>?_;refine AW p1 (Ij ((ds.getD ((Az ds act v)).1 default)) n1 h1 m1 g1 p2 (d1.below p1.B) (c1.below p1.B)) λc4 o3=>?_;refine AC et o3 [] λt1 g2=>?_;refine AH (BM ((ds.getD ((Az ds act v)).1 default))) (λk1=>?_) (λk1=>?_)
  ·refine Bn BH vI [N w.heap.size [Y t,V (some ⟨m,o,none⟩) ds.length j] 27,N v1.heap.size ((Ad v c0 a0)) 70,N t1.heap.size [J ((((Az ds act v)).1:Int))] 3] g2 [] λb4 l0=>?_;refine CD l0.H (l0.ix 1) (l0.at 1 rfl) (((Az ds act v)).1) [J ((((Az ds act v)).1:Int))] rfl (t1.heap.size) (l0.ent 2 (by kernel_rfl)) (Cr vI) (by kernel_rfl) (.tmp 40) (.tmp 42) 22 (by kernel_rfl) (by kernel_rfl) (by kernel_rfl) (by decide) (by kernel_rfl) (by kernel_rfl) rfl rfl (by((try simp only[maxLen,length_append,length_cons,length_nil,length_singleton])<;>omega)) λr1 i1 a4 Hn c3=>?_;have n3:=l0.put 1 (by simp) c3 Hn;refine AC (Ab eq) n3 [] λo2 m3=>?_;refine AX [(1,V z act.length h0),(3,Z (w.heap.size)),(6,V none 0 0),(7,J p),(8,V r1 ((a++[((Az ds act v)).1]).length) i1),(19,φ j0 (((Bm [] ((ds.getD i default).body))).length) l),(20,J ((((Bm [] ((ds.getD i default).body))).length:Int))),(21,J (IntKind.i64.wrap ((q:Int)+1)))] λu3=>?_;have l3:Wk w o2 [N w.heap.size [Y t,V (some ⟨m,o,none⟩) ds.length j] 27] [(Fu w (θ j0) l ((Bm [] ((ds.getD i default).body)))),(Bc r1 i1 (a++[((Az ds act v)).1]))] []:=m3.pk [0] [0,1];rw[Bs q (by omega)];refine y _ _ ⟨q+1,p,(a++[((Az ds act v)).1]),r1,i1,u3,g0,rfl,by rw[u,q0,k1]<;>rfl,by((try simp only[maxLen,length_append,length_cons,length_nil,length_singleton])<;>omega),l3⟩ ?_;show((Bm [] ((ds.getD i default).body))).length-AP (J ((q+1:Nat):Int))<((Bm [] ((ds.getD i default).body))).length-AP (J (q:Int));simp only[AP];omega
  refine AC (Ab eq) g2 [] λn2 k3=>?_;refine AX [(1,V z act.length h0),(3,Z (w.heap.size)),(6,V none 0 0),(7,J p),(8,V f a.length b),(19,φ j0 (((Bm [] ((ds.getD i default).body))).length) l),(20,J ((((Bm [] ((ds.getD i default).body))).length:Int))),(21,J (IntKind.i64.wrap ((q:Int)+1)))] λt3=>?_;have i3:Wk w n2 [N w.heap.size [Y t,V (some ⟨m,o,none⟩) ds.length j] 27] [(Fu w (θ j0) l ((Bm [] ((ds.getD i default).body)))),(Bc f b a)] []:=k3.pk [0] [0,1];rw[Bs q (by omega)];refine y _ _ ⟨q+1,p,a,f,b,t3,g0,rfl,by rw[u,q0,k1]<;>rfl,by((try simp only[maxLen,length_append,length_cons,length_nil,length_singleton])<;>omega),i3⟩ ?_;show((Bm [] ((ds.getD i default).body))).length-AP (J ((q+1:Nat):Int))<((Bm [] ((ds.getD i default).body))).length-AP (J (q:Int));simp only[AP];omega
 have c2:q=(Bm [] ((ds.getD i default).body)).length:=by have:=of_decide_eq_false l1;omega
 rw[c2,drop_length,Tj]at u;refine AC vH m0 [] λm2 f2=>?_;have Kf:=(f2.pickL (L':=[(Bc f b a)]++[(Fu w s l ((Bm [] ((ds.getD i default).body))))]) [1,0] rfl (by decide)).front;refine BL (args:=[V f a.length b]) (qO _ f a b w m2 (by omega) f2.B Kf) λen z3 hh=>?_;obtain⟨rfl,b3,Hn⟩:=hh;refine⟨_,rfl,?_⟩;have h3:=Wk.unfront b3 Hn;refine AC vG h3 [] λl2 e2=>?_;have Kf:=(e2.pickL (L':=[(Bc f b (Gg a))]++[(Fu w s l ((Bm [] ((ds.getD i default).body))))]) [0,1] rfl (by decide)).front;refine BL (args:=[V f a.length b]) (Y5 _ f (Gg a) b w l2 (by simp only[Lc];omega) (Lc _) e2.B Kf) λen y3 hh=>?_;obtain⟨p0,k0,rfl,a3,Hn⟩:=hh;refine⟨_,rfl,?_⟩;have g3:=Wk.unfront a3 Hn;refine AC AFa g3 [] λx3 o1=>?_;have hS:(Cu ds act i)=((FC (Gg a)),0):=by rw[u]<;>rfl
 exact AN o1 (0,0) (.tuple #[V p0 (((FC (Gg a))).length) k0,J 0]) ⟨p0,k0,by rw[hS]<;>rfl,o1.B,by rw[hS];exact o1.own0 [0] rfl (by decide)⟩
end
end Go.Proofs.YtkpemkkbjfbmaaaGreat
namespace Go.Proofs.YtkpemkkbjfbmaaaGreat
open List
open Go.RowKit
set_option maxRecDepth 100000
set_option maxHeartbeats 1000000
set_option linter.unusedSectionVars false
structure Ag (α β:Type) where
 k:TypeId
 e:TypeId
 t:TypeId
 kv:α->Value
 kl:α->Lit
 ka:α->Prop
 ev:β->Value
 ea:β->Prop
 z:β
 R:Value->Option (DataW Unit×List MemPlace)
 code:β->DataW Unit
 K:Maps.Keyed Tryz.prog k
 ht:Tryz.prog.underlying t=some (.map k e)
 key:∀a,ka a->keyOf Tryz.prog k (kv a)=some (kl a)
 isKey:∀a,WideAt.IsKeyLit (kl a)
 inj:∀a b,ka a->ka b->kl a=kl b->a=b
 hz:∀w,(zeroValue e).run Tryz.prog w=.ok (ev z) w
 za:ea z
 hR:∀v,ea v->R (ev v)=some (code v,[])
 hinv:∀x v ps,R x=some (code v,ps)->x=ev v
section
variable {α β:Type} [DecidableEq α] (S:Ag α β)
def Bf:List (α×β)->α->Option β
 | [],_=>none
 | p::m,a=>if p.1=a then some p.2 else Bf m a
def Ag.dat:List (α×β)->DataW Unit
 | []=>.map []
 | p::m=>(Ag.dat m).put (S.kl p.1) (S.code p.2)
theorem Ag.dat_map:∀m:List (α×β),Maps.IsMap (S.dat m)
 | []=>⟨[],rfl⟩
 | p::m=>by obtain⟨es,h⟩:=Ag.dat_map m;unfold Ag.dat;rw[h];exact⟨_,rfl⟩
theorem Ag.dat_has:∀(m:List (α×β)) (a:α),(∀p∈m,S.ka p.1)->S.ka a->Maps.has (S.dat m) (S.kl a)=(Bf m a).isSome
 | [],a,_,_=>rfl
 | p::m,a,hm,ha=>by
  unfold Ag.dat Bf;by_cases h:p.1=a
  ·subst h;rw[if_pos rfl,Maps.has_put_same (S.dat_map m) (S.isKey _)];rfl
  rw[if_neg h,Maps.has_put_other (λe=>h (S.inj _ _ ha (hm p (by simp)) e).symm),Ag.dat_has m a (λq b=>hm q (by simp[b])) ha]
theorem Ag.dat_at:∀(m:List (α×β)) (a:α),(∀p∈m,S.ka p.1)->S.ka a->(S.dat m).atKey (S.kl a) (S.code S.z)=S.code ((Bf m a).getD S.z)
 | [],a,_,_=>rfl
 | p::m,a,hm,ha=>by
  unfold Ag.dat Bf;by_cases h:p.1=a
  ·subst h;rw[if_pos rfl,Maps.atKey_put_same (S.dat_map m) (S.isKey _)];rfl
  rw[if_neg h,Maps.atKey_put_other (λe=>h (S.inj _ _ ha (hm p (by simp)) e).symm),Ag.dat_at m a (λq b=>hm q (by simp[b])) ha]
def Ag.at (b:Nat) (m:List (α×β)) (w:World):Prop:=w.ownsMap Tryz.prog S.k S.R b m.length (S.dat m)/\∀p∈m,S.ka p.1
theorem Ag.at_fr {b:Nat} {m:List (α×β)} {w w':World} (h:S.at b m w) (hb:b<(U w)->w'.heap[b]?=w.heap[b]?):S.at b m w':=by have hl:=World.ownsMap.lt h.1;obtain⟨⟨es,a,d,h2⟩,c⟩:=h;exact⟨⟨es,a,(hb hl).trans d,h2⟩,c⟩
def Ag.th (b:Nat) (m:List (α×β)):Th:=⟨(·=b),S.at b m,λ_ _ h _ hk=>S.at_fr h (hk b rfl)⟩
theorem Ag.look {b:Nat} {m:List (α×β)} {w:World} (h:S.at b m w) (a:α) (ha:S.ka a):(Instr.lookup S.t (.map (some b)) (S.kv a) false).run Tryz.prog w=.ok (S.ev ((Bf m a).getD S.z)) w:=by obtain⟨v,d,c,h2⟩:=World.ownsMap.lookup h.1 S.K S.ht (S.hz w) (S.hR _ S.za) (S.key a ha);rw[S.dat_at m a h.2 ha]at h2;rw[c,S.hinv _ _ _ h2]
theorem Ag.look2 {b:Nat} {m:List (α×β)} {w:World} (h:S.at b m w) (a:α) (ha:S.ka a):(Instr.lookup S.t (.map (some b)) (S.kv a) true).run Tryz.prog w=.ok (.tuple #[S.ev ((Bf m a).getD S.z),I (Bf m a).isSome]) w:=by obtain⟨v,d,c,h2⟩:=World.ownsMap.look_ok h.1 S.K S.ht (S.hz w) (S.hR _ S.za) (S.key a ha);rw[S.dat_at m a h.2 ha]at h2;rw[c,S.hinv _ _ _ h2,S.dat_has m a h.2 ha]
theorem Ag.store {b:Nat} {m:List (α×β)} {w:World} (h:S.at b m w) (a:α) (v:β) (ha:S.ka a) (hv:S.ea v) (hm:m.length<maxLen):∃w',(Instr.mapUpdate S.t (.map (some b)) (S.kv a) (S.ev v)).run Tryz.prog w=.ok () w'/\S.at b ((a,v)::m) w'/\w.grownBy w' (some b):=by obtain⟨w',e,h2,d⟩:=World.ownsMap.update h.1 S.K S.ht hm (S.key a ha) (S.hR v hv);exact⟨w',e,⟨h2,λp c=>by rcases mem_cons.1 c with rfl | c;exact ha;exact h.2 p c⟩,d⟩
end
section
variable {α β:Type} [DecidableEq α] (S:Ag α β) {o:Oper} {ρ:Operand->Value} {w:World}
theorem Hm {t:TypeId} {x y:Operand} (hop:o.op=.lookup t x y false) (ht:t=S.t) {b:Nat} {m:List (α×β)} (hx:ρ x=.map (some b)) (a:α) (c:ρ y=S.kv a) (ha:S.ka a) (h:S.at b m w):(execOp ρ o).run Tryz.prog w=.ok (.value (S.ev ((Bf m a).getD S.z))) w:=by subst ht;have:=S.look h a ha;unfold execOp;simp only[hop,hx,c];rw[Sem.run_bind,this];rfl
theorem Rn {t:TypeId} {x y:Operand} (hop:o.op=.lookup t x y true) (ht:t=S.t) {b:Nat} {m:List (α×β)} (hx:ρ x=.map (some b)) (a:α) (c:ρ y=S.kv a) (ha:S.ka a) (h:S.at b m w):(execOp ρ o).run Tryz.prog w=.ok (.value (.tuple #[S.ev ((Bf m a).getD S.z),I (Bf m a).isSome])) w:=by subst ht;have:=S.look2 h a ha;unfold execOp;simp only[hop,hx,c];rw[Sem.run_bind,this];rfl
end
section
variable {α β:Type} [DecidableEq α] (S:Ag α β) {fi:FuncId} {R:Ending->World->Prop} {k:Nat} {td:List Item} {E:Nat->Value} {b:Nat} {L:List Th} {w:World}
theorem TV {P:Program} {f:FuncId} {R:Ending->World->Prop} {n:Nat} {todo:List Item} {E:Nat->Value} {w w':World} (o:Oper) (hc:GP n E todo=some o) (hx:(execOp (BK n E) o).run P w=.ok .skip w') (h:At P f R (AD todo) (Fr n (A8 E o.dst undef)) w'):At P f R todo (Fr n E) w:=by
 unfold GP at hc
 split at hc
 ·rename_i ops i r k
  split at hc
  ·rename_i o' ho
   split at hc
   ·rename_i hw
    obtain rfl:=Option.some.inj hc;refine GC ho (by rw[Fi];exact hw) ?_;unfold Oper.wp;rw[D8,hx];show wpOps P ops _ r ((Fr n E).put o'.dst undef) w';rw[Eo];exact h
   cases hc
  cases hc
 cases hc
theorem Je (H:AY b w L) (o:Oper) (hc:GP k E td=some o) {t:TypeId} (ho:o.op=.makeMap t none)
  (f:∀w',w'.heap.size=w.heap.size+1->AY b w' (L++[S.th w.heap.size []])->Below b w w'->At Tryz.prog fi R (AD td) (Fr k (A8 E o.dst (.map (some w.heap.size)))) w'):At Tryz.prog fi R td (Fr k E) w:=by
 have hx:(execOp (BK k E) o).run Tryz.prog w=.ok (.value (.map (some w.heap.size))) (w.alloc (.map #[] 0)):=by unfold execOp;simp only[ho];rfl
 have d:Below w.heap.size w (w.alloc (.map #[] 0)):=⟨rfl,rfl,rfl,by simp,λq a=>IG w _ q a⟩;refine Om o hc hx (f _ (by simp) (H.join d ⟨by simp,λi t hi=>?_,λi t hi q a=>?_,λi j s t hi g c=>?_⟩) (d.mono H.base))
 ·cases i with
  | zero=>obtain rfl:=Option.some.inj hi;exact⟨World.ownsMap_made w Tryz.prog S.k S.R,λp e=>by cases e⟩
  | succ i=>simp at hi
 ·cases i with
  | zero=>
   obtain rfl:=Option.some.inj hi;obtain rfl:q=w.heap.size:=a;simp
  | succ i=>simp at hi
 cases i with
 | zero=>cases j with
  | zero=>exact absurd rfl c
  | succ j=>simp at g
 | succ i=>simp at hi
theorem TW (H:AY b w L) (i:Nat) {g:Nat} {m:List (α×β)} (hi:L[i]?=some (S.th g m)) (a:α) (v:β) (ha:S.ka a) (hv:S.ea v) (o:Oper) (hc:GP k E td=some o) {t:TypeId} {x y z:Operand} (ho:o.op=.mapUpdate t x y z) (ht:t=S.t)
  (hx:BK k E x=.map (some g)) (f:BK k E y=S.kv a) (hz:BK k E z=S.ev v) (hm:m.length<100000000000)
  (h:∀w',AY b w' (L.set i (S.th g ((a,v)::m)))->Below b w w'->At Tryz.prog fi R (AD td) (Fr k (A8 E o.dst undef)) w'):At Tryz.prog fi R td (Fr k E) w:=by
 subst ht;obtain⟨w',j,h2,c⟩:=S.store (H.all i _ hi) a v ha hv (by unfold maxLen;omega);have hl:=(H.lo i _ hi g rfl);have e:(execOp (BK k E) o).run Tryz.prog w=.ok .skip w':=by unfold execOp;simp only[ho,hx,f,hz];rw[Sem.run_bind,j];rfl
 refine TV o hc e (h w' (H.set i hi c.size h2 (λq d=>?_) (λq d hf=>c.block q d λhe=>hf (Option.some.inj he))) ⟨c.os,c.tape,c.output,c.size,λq d=>c.block q (Nat.lt_of_lt_of_le d H.base) λhe=>?_⟩)
 ·obtain rfl:q=g:=d;exact⟨World.ownsMap.lt h2.1,.inl rfl⟩
 have:=Option.some.inj he;omega
end
theorem Uk {a:Int} (b:-9223372036854775808<=a) (h2:a<=9223372036854775807):(Lit.int .i64 a).wf=true:=by
 have d:IntKind.i64.min=-9223372036854775808:=by decide
 have c:IntKind.i64.max=9223372036854775807:=by decide
 show(decide (IntKind.i64.min<=a)&&decide (a<=IntKind.i64.max))=true;rw[d,c,decide_eq_true b,decide_eq_true h2];rfl
noncomputable def BW:Ag (List UInt8) Int where
 k:=9
 e:=3
 t:=85
 kv s:=.string ⟨⟨s⟩⟩
 kl s:=.string s
 ka s:=s.length<=4294967296
 ev n:=.int .i64 n
 ea n:=-9223372036854775808<=n/\n<=9223372036854775807
 z:=0
 R:=plainElem Tryz.prog 3
 code n:=.lit (.int .i64 n)
 K:=Maps.string_keyed Tryz.underlying9
 ht:=Tryz.underlying85
 key a ha:=WideMaps.keyOf_string_mk Tryz.underlying9 (by show a.length<=maxLen;unfold maxLen;omega)
 isKey _:=trivial
 inj a b _ _ h:=by injection h
 hz w:=Tryz.zeroValue3 w
 za:=by decide
 hR v hv:=plainElem_int Tryz.underlying3 (Uk hv.1 hv.2)
 hinv x v ps h:=by obtain⟨a,rfl,h2,_⟩:=plainElem_int_inv Tryz.underlying3 h;simp only[Prod.mk.injEq,DataW.lit.injEq,Lit.int.injEq,true_and]at h2;rw[h2.1]
noncomputable def IK:Ag Nat Bool where
 k:=3
 e:=4
 t:=154
 kv n:=.int .i64 (n:Int)
 kl n:=.int .i64 n
 ka n:=n<=4294967296
 ev b:=.bool b
 ea _:=True
 z:=false
 R v:=match v with | .bool x=>some (.lit (.bool x),[]) | _=>none
 code b:=.lit (.bool b)
 K:=Maps.int_keyed Tryz.underlying3
 ht:=Tryz.underlying154
 key a ha:=Maps.keyOf_int_mk Tryz.underlying3 (Uk (by omega) (by omega))
 isKey _:=trivial
 inj a b _ _ h:=by injection h with h1 h2;exact Int.ofNat.inj h2
 hz w:=Tryz.zeroValue4 w
 za:=trivial
 hR _ _:=rfl
 hinv x v ps h:=by
  split at h
  ·simp only[Option.some.injEq,Prod.mk.injEq,DataW.lit.injEq,Lit.bool.injEq]at h;rw[h.1]
  cases h
abbrev SlP:=Option Addr×Nat×Nat
def slR:Value->Option (DataW Unit×List MemPlace)
 | .slice none n c=>some (.agg [.nil,.lit (.int .i64 n),.lit (.int .i64 c)],[])
 | .slice (some ⟨g,o,none⟩) n c=>some (.agg [.lit (.int .i64 g),.lit (.int .i64 n),.lit (.int .i64 c),.lit (.int .i64 o)],[])
 | _=>none
noncomputable def LI:Ag Nat SlP where
 k:=3
 e:=22
 t:=120
 kv n:=.int .i64 (n:Int)
 kl n:=.int .i64 n
 ka n:=n<=4294967296
 ev v:=.slice v.1 v.2.1 v.2.2
 ea v:=∀a,v.1=some a->a.spot=none
 z:=(none,0,0)
 R:=slR
 code v:=match v.1 with
  | none=>.agg [.nil,.lit (.int .i64 v.2.1),.lit (.int .i64 v.2.2)]
  | some ⟨g,o,none⟩=>.agg [.lit (.int .i64 g),.lit (.int .i64 v.2.1),.lit (.int .i64 v.2.2),.lit (.int .i64 o)]
  | some ⟨_,_,some _⟩=>.agg []
 K:=Maps.int_keyed Tryz.underlying3
 ht:=Tryz.underlying120
 key a ha:=Maps.keyOf_int_mk Tryz.underlying3 (Uk (by omega) (by omega))
 isKey _:=trivial
 inj a b _ _ h:=by injection h with h1 h2;exact Int.ofNat.inj h2
 hz w:=Tryz.zeroValue22 w
 za a h:=by cases h
 hR v hv:=by
  obtain⟨A,n,c⟩:=v
  cases A with
  | none=>rfl
  | some a=>
   obtain⟨g,o,s⟩:=a;obtain rfl:s=none:=hv _ rfl;rfl
 hinv x v ps h:=by
  obtain⟨A,n,c⟩:=v;unfold slR at h
  split at h
  ·cases A with
   | none=>simp at h;simp;omega
   | some a=>
    obtain⟨g,o,s⟩:=a
    cases s<;>simp at h
  ·cases A with
   | none=>simp at h
   | some a=>
    obtain⟨g,o,s⟩:=a
    cases s with
    | none=>simp at h;simp;omega
    | some s=>simp at h
  cases h
def Ig:Op->Bool
 | .makeMap _ _=>true
 | _=>false
def FQ:Op->Bool
 | .lookup _ _ _ _=>true
 | _=>false
def RZ:Op->Bool
 | .mapUpdate _ _ _ _=>true
 | _=>false
def Th.all (us:List Th):Th:=⟨λk=>∃u∈us,u.F k,λw=>∀u∈us,u.P w,λw w' h hs hk u hu=>u.fr w w' (h u hu) hs λk hf hl=>hk k ⟨u,hu,hf⟩ hl⟩
theorem AY.erase {b:Nat} {w:World} {L:List Th} (h:AY b w L) (j:Nat):AY b w (L.eraseIdx j):=by
 have hg:∀(i:Nat) (t:Th),(L.eraseIdx j)[i]?=some t->L[if i<j then i else i+1]?=some t:=λi t ht=>by
  rw[getElem?_eraseIdx]at ht
  split at ht<;>rename_i hij
  ·rw[if_pos hij];exact ht
  rw[if_neg hij];exact ht
 refine⟨h.base,λi t ht=>h.all _ t (hg i t ht),λi t ht=>h.lo _ t (hg i t ht),λi k s t hs ht a=>h.apart _ _ s t (hg i s hs) (hg k t ht) λc=>a ?_⟩
 split at c<;>split at c<;>omega
theorem AY.absorb {β:Type} {b:Nat} {w:World} {L:List Th} (h:AY b w L) (i j:Nat) (f:β->Th) (xs l:List β) (x:β) (hi:L[i]?=some (Th.all (xs.map f))) (v:L[j]?=some (f x)) (g0:i≠j) (hy:∀z,z∈l↔z=x\/z∈xs):AY b w ((L.set i (Th.all (l.map f))).eraseIdx j):=by
 have hl:i<L.length:=(List.getElem?_eq_some_iff.1 hi).1;have c:∀k,(Th.all (l.map f)).F k->(Th.all (xs.map f)).F k\/(f x).F k:=λk ⟨u,hu,hf⟩=>by
  obtain⟨z,hz,rfl⟩:=mem_map.1 hu;rcases(hy z).1 hz with rfl | hz
  ·exact .inr hf
  exact .inl ⟨_,mem_map.2 ⟨z,hz,rfl⟩,hf⟩
 have hP:(Th.all (l.map f)).P w:=λu hu=>by
  obtain⟨z,hz,rfl⟩:=mem_map.1 hu;rcases(hy z).1 hz with rfl | hz
  ·exact h.all j _ v
  exact h.all i _ hi _ (mem_map.2 ⟨z,hz,rfl⟩)
 have hg:∀(q:Nat) (t:Th),((L.set i (Th.all (l.map f))).eraseIdx j)[q]?=some t->∃a,a≠j/\a=(if q<j then q else q+1)/\((a=i/\t=Th.all (l.map f))\/(a≠i/\L[a]?=some t)):=λq t ht=>by
  rw[getElem?_eraseIdx]at ht;refine⟨_,?_,rfl,?_⟩
  ·split<;>omega
  split at ht<;>rename_i hq<;>simp only[hq,if_true,if_false]<;>rw[getElem?_set]at ht<;>split at ht
  ·rename_i he;exact .inl ⟨he.symm,(Option.some.inj ht).symm⟩
  ·rename_i he;exact .inr ⟨λe=>he e.symm,ht⟩
  ·rename_i he;exact .inl ⟨he.symm,(Option.some.inj ht).symm⟩
  rename_i he;exact .inr ⟨λe=>he e.symm,ht⟩
 refine⟨h.base,λq t ht=>?_,λq t ht k hf=>?_,λp q s t hs ht b0 k hf g=>?_⟩
 ·obtain⟨a,_,_,⟨_,rfl⟩ | ⟨_,h2⟩⟩:=hg q t ht
  ·exact hP
  exact h.all _ _ h2
 ·obtain⟨a,_,_,⟨_,rfl⟩ | ⟨_,h2⟩⟩:=hg q t ht
  ·rcases c k hf with d | d
   ·exact h.lo i _ hi k d
   exact h.lo j _ v k d
  exact h.lo _ _ h2 k hf
 obtain⟨r,e0,d0,c0⟩:=hg p s hs;obtain⟨a,a0,y,m⟩:=hg q t ht;have n:r≠a:=λe=>b0 (by rw[d0,y]at e;split at e<;>split at e<;>omega);rcases c0 with⟨e1,rfl⟩ | ⟨e1,h1⟩
 ·rcases m with⟨o,_⟩ | ⟨o,h2⟩
  ·exact n (e1.trans o.symm)
  rcases c k hf with d | d
  ·exact h.apart i a _ _ hi h2 (λe=>o e.symm) k d g
  exact h.apart j a _ _ v h2 (λe=>a0 e.symm) k d g
 rcases m with⟨o,rfl⟩ | ⟨o,h2⟩
 ·rcases c k g with d | d
  ·exact h.apart i r _ _ hi h1 (λe=>e1 e.symm) k d hf
  exact h.apart j r _ _ v h1 (λe=>e0 e.symm) k d hf
 exact h.apart r a _ _ h1 h2 n k hf g
theorem Wk.take {β:Type} {w0 w:World} {M:List Ax} {L T:List Th} (K:Wk w0 w M L T) (i j:Nat) (f:β->Th) (xs a:List β) (x:β) (hi:L[i]?=some (Th.all (xs.map f))) (d:L[j]?=some (f x)) (g:i≠j) (e:∀z,z∈a↔z=x\/z∈xs):Wk w0 w M ((L.set i (Th.all (a.map f))).eraseIdx j) T:=by have b:j<L.length:=(List.getElem?_eq_some_iff.1 d).1;have c:i<L.length:=(List.getElem?_eq_some_iff.1 hi).1;refine⟨K.B,?_⟩;have h:=K.H.absorb (K.ix i) (K.ix j) f xs a x (K.at i hi) (K.at j d) (by unfold Wk.ix;omega) e;unfold Wk.ix at h;rw[set_append,if_neg (by simp),length_map,Nat.add_sub_cancel_left,set_append,if_pos c,eraseIdx_append_of_length_le (by simp),length_map,Nat.add_sub_cancel_left,eraseIdx_append_of_lt_length (by rw[length_set];exact b)]at h;exact h
theorem Br.agree {b:Nat} {ns:List Int} {w w':World} (h:Br b ns w) (a:∀k,k<=b->w'.heap[k]?=w.heap[k]?):Br b ns w':=by obtain⟨v,k,d,h2,c⟩:=h;exact⟨v,k,d,(a b (Nat.le_refl _)).trans h2,c.keep λg hg=>a g (Nat.le_of_lt hg)⟩
theorem m4 (w:World) (b:Nat) (hb:b<w.heap.size):∃w0:World,w0.heap.size=b/\Below w0.heap.size w0 w:=by refine⟨{ w with heap:=w.heap.extract 0 b },by simp;omega,rfl,rfl,rfl,by simp;omega,λk a=>?_⟩;simp at a;simp[Array.getElem?_extract];omega
def BV (w0:World) (b:Nat) (ns:List Int):Th where
 F k:=k=b
 P w:=∃u,Br b ns u/\(∀k,k<b->u.heap[k]?=w0.heap[k]?)/\u.heap[b]?=w.heap[b]?
 fr w w' h _ hk:=by
  obtain⟨u,h1,h2,h3⟩:=h;have hlt:b<(U w):=by obtain⟨v,k,_,hc,_⟩:=h1;exact MJ (h3.symm.trans hc)
  exact⟨u,h1,h2,h3.trans (hk b rfl hlt).symm⟩
def CI (b:Nat) (w:World):Th where
 F k:=b<k/\k<(U w)
 P u:=(U w)<=(U u)/\∀k,b<k->k<(U w)->u.heap[k]?=w.heap[k]?
 fr u u' h hs hk:=⟨Nat.le_trans h.1 hs,λk h1 h2=>(hk k ⟨h1,h2⟩ (Nat.lt_of_lt_of_le h2 h.1)).trans (h.2 k h1 h2)⟩
theorem qP {α:Type} {l:List α} {i:Nat} {x:α} (h:l[i]?=some x):l.set i x=l:=by
 refine ext_getElem? λj=>?_;rw[getElem?_set]
 split
 ·rename_i hij
  rw[<-hij,h,if_pos (List.getElem?_eq_some_iff.1 h).1]
 rfl
section
variable {b:Nat} {ns:List Int} {w0 w w':World} {M:List Ax} {L T X:List Th}
theorem Wk.tapeOk (K:Wk w0 w M L T) (e:w0.heap.size=b) (i:Nat) (hi:L[i]?=some (BV w0 b ns)):Br b ns w:=by
 obtain⟨u,c,h2,a⟩:=K.H.all (K.ix i) _ (K.at i hi);refine c.agree λk d=>?_;rcases Nat.lt_or_ge k b with h | h
 ·exact(K.B.block k (by omega)).trans (h2 k h).symm
 obtain rfl:k=b:=by omega
 exact a.symm
theorem Wk.tick (K:Wk w0 w M L T) (f:w0.heap.size=b) (i:Nat) (hi:L[i]?=some (BV w0 b ns)) (d:Br b ns w') (hb:CU b w w'):Wk w0 w' M L T:=by have e:Below w0.heap.size w w':=hb.below (by omega) K.size;refine⟨K.B.trans e,?_⟩;have c:=K.at i hi;have:=K.H.set (K.ix i) c (t:=BV w0 b ns) hb.size ⟨w',d,λk a=>(K.B.trans e).block k (by omega),rfl⟩ (λk a=>⟨by rw[show k=b from a];exact d.lt,.inl a⟩) (λk a hf=>hb.block k a hf);rwa [qP c]at this
theorem Wk.tape (h:Br b ns w):∃w0:World,w0.heap.size=b/\Wk w0 w [] [BV w0 b ns,CI b w] []:=by
 obtain⟨w0,g,e⟩:=m4 w b h.lt;refine⟨w0,g,e,e.size,λi t hi=>?_,λi t hi k d=>?_,λi j s t hi a c k hs ht=>?_⟩
 ·match i,hi with
  | 0,hi=>
   obtain rfl:=Option.some.inj hi;exact⟨w,h,λk d=>e.block k (by omega),rfl⟩
  | 1,hi=>
   obtain rfl:=Option.some.inj hi;exact⟨Nat.le_refl _,λ_ _ _=>rfl⟩
 ·have f:=h.lt
  match i,hi with
  | 0,hi=>
   obtain rfl:=Option.some.inj hi;obtain rfl:k=b:=d;omega
  | 1,hi=>
   obtain rfl:=Option.some.inj hi;obtain⟨l,h2⟩:b<k/\k<w.heap.size:=d;omega
 match i,j,hi,a with
 | 0,0,hi,a=>exact c rfl
 | 1,1,hi,a=>exact c rfl
 | 0,1,hi,a=>
  obtain rfl:=Option.some.inj hi;obtain rfl:=Option.some.inj a;obtain rfl:k=b:=hs;exact absurd ht.1 (Nat.lt_irrefl _)
 | 1,0,hi,a=>
  obtain rfl:=Option.some.inj hi;obtain rfl:=Option.some.inj a;obtain rfl:k=b:=ht;exact absurd hs.1 (Nat.lt_irrefl _)
theorem Wk.out (K:Wk w0 w' M (BV w0 b ns::CI b w::X) T) (f:w0.heap.size=b) (a:Below w0.heap.size w0 w):Br b ns w'/\CU b w w':=by
 obtain⟨e,h2⟩:=K.H.all (K.ix 1) _ (K.at 1 rfl);refine⟨K.tapeOk f 0 rfl,K.B.os.trans a.os.symm,K.B.tape.trans a.tape.symm,K.B.output.trans a.output.symm,e,λk d c=>?_⟩;rcases Nat.lt_or_ge k b with h | h
 ·exact(K.B.block k (by omega)).trans (a.block k (by omega)).symm
 exact h2 k (by omega) d
theorem AY.up {t:Th} (h:AY b w (t::X)) (ht:t.F b):AY (b+1) w X:=by refine⟨(h.lo 0 t rfl b ht).2,λi s hs=>h.all (i+1) s hs,λi s hs k a=>?_,λi j s u hs hu c=>h.apart (i+1) (j+1) s u hs hu (by omega)⟩;have d:=h.lo (i+1) s hs k a;have h2:k≠b:=λhe=>h.apart 0 (i+1) t s rfl hs (by omega) b ht (he ▸ a);omega
theorem Wk.fin (K:Wk w0 w' [] (BV w0 b ns::CI b w::X) []) (a:(U w0)=b):AY (b+1) w' X:=by subst a;have h:=K.H;simp only[map_nil,nil_append,append_nil]at h;exact AY.up (h.erase 1) rfl
theorem AY.but {c:Nat} (h:AY c w L) (hc:b<c) (hb:CU b w w'):AY c w' L:=h.fr hb.size λk a h2=>hb.block k h2 (by omega)
theorem BS {P:Program} {f:FuncId} {R:Ending->World->Prop} {n:Nat} {todo:List Item} {E:Nat->Value} {g:FuncId} {args:List Value} {Q:Ending->World->Prop} (K:Wk w0 w M L T) (k:(U w0)=b) (i:Nat) (hi:L[i]?=some (BV w0 b ns)) (h:Calls P g args.toArray w Q) (d:∀e w',Q e w'->Br b ns w'/\CU b w w')
  (j:∀e w',Q e w'->Wk w0 w' M L T->∃v,e=.returned v/\At P f R (AD todo) (Fr n (A8 E (BO n E todo) v)) w') (hc:(Ja n E todo).map (λc=>(c.1,c.2.1.map (BK n E)))=some (g,args):=by kernel_rfl) (hg:Dr P g=true:=by kernel_rfl):At P f R todo (Fr n E) w:=
 BL h (λe w' a=>j e w' a (K.tick k i hi (d e w' a).1 (d e w' a).2)) hc hg
end
theorem Bl.ok {b:Nat} {ns:List Int} {n:Int} {w:World}:∀e w',Bl b ns n w e w'->Br b ns w'/\CU b w w':=λ_ _ ⟨_,_,_,a,h2⟩=>⟨a,h2⟩
def R3 (o:Op):Option (FuncId×List Operand):=match o with
 | .call ⟨.value (.func g),xs,_⟩=>some (g,xs.toList)
 | _=>none
theorem TT {o:Op} {g:FuncId} {xs:List Operand} (h:R3 o=some (g,xs)):∃ats,o=.call ⟨.value (.func g),xs.toArray,ats⟩:=by
 unfold R3 at h
 split at h
 ·rename_i g' xs' ats
  simp only[Option.some.injEq,Prod.mk.injEq]at h;obtain⟨rfl,rfl⟩:=h;exact⟨ats,rfl⟩
 cases h
theorem AL.mono {P:Program} {o:Oper} {ρ:Operand->Value} {w:World} {K b:Value->World->Prop} (h:AL P o ρ w K) (a:∀v w',K v w'->b v w'):AL P o ρ w b:=by
 unfold AL at h ⊢
 split at h
 ·exact a _ _ h
 ·exact a _ _ h
 ·exact h.mono λe w' ⟨v,c,h2⟩=>⟨v,c,a v w' h2⟩
 exact h.elim
section
variable {P:Program} {n:Nat} {ops:Array Oper} {mem:List Ax} {hints:List (Nat×Nat×Nat)} {E:Nat->Value} {os m:List Nat} {xb:Nat->List Nat}
def EG (os:List Nat) (X:Nat->Value):List Sp:=os.map λi=>⟨i,[],X i,true⟩
theorem PY (X:Nat->Value) (i:Nat):∀os:List Nat,Hh (EG os X) i=cond (os.contains i) (some ⟨i,[],X i,true⟩) none
 | []=>rfl
 | j::os=>by
  have b:=PY X i os;show(match Nat.beq j i with
   | true=>some (⟨j,[],X j,true⟩:Sp)
   | false=>Hh (EG os X) i)=_
  rw[contains_cons]
  cases hb:Nat.beq j i with
  | true=>
   obtain rfl:=Nat.eq_of_beq_eq_true hb;simp
  | false=>
   have a:(i==j)=false:=by
    rw[beq_eq_false_iff_ne];intro h;rw[h,Nat.beq_refl]at hb
    cases hb
   rw[a,Bool.false_or];exact b
theorem mM {X η:Nat->Value} (h:∀i∈os,X i=η i):EG os X=EG os η:=map_congr_left λi hi=>by rw[h i hi]
def IJ (ops:Array Oper) (m os:List Nat) (i:Nat):List Nat:=os.filter λj=>(Eu ops m i).contains j
noncomputable def ZY (ops:Array Oper) (m:List Nat) (i:Nat) (X:Nat->Value) (j:Nat):Value:=cond ((Eu ops m i).contains j||Nat.beq j i) (X j) undef
noncomputable def Nx (P:Program) (n:Nat) (ops:Array Oper) (mem:List Ax) (hints:List (Nat×Nat×Nat)) (os m:List Nat) (E:Nat->Value) (S:Nat->Value->World->Prop) (xb:Nat->List Nat):List DA:=m.map λi=>⟨i,Eu ops m i++xb i,IJ ops m os i++[i],λvs u=>∃X,vs=(IJ ops m os i++[i]).map (D6 P n ops mem hints (EG os X) m E)/\(os.contains i=true->S i (X i) u)⟩
theorem Rh {X:Nat->Value} {i:Nat} (hi:os.contains i=true):D6 P n ops mem hints (EG os X) m E i=X i:=by unfold D6 Mz;rw[PY,hi];rfl
theorem ZX {S:Nat->Value->World->Prop} {vals:Nat->Value} {u:World} (a:∀X,m.map (λi=>D6 P n ops mem hints (EG os X) m E i)=m.map (λi=>D6 P n ops mem hints (EG os (ZY ops m i X)) m E i)) {i:Nat} (hi:i∈m)
  (h:∃X,(IJ ops m os i++[i]).map vals=(IJ ops m os i++[i]).map (D6 P n ops mem hints (EG os X) m E)/\(os.contains i=true->S i (X i) u)):vals i=D6 P n ops mem hints (EG os vals) m E i/\(os.contains i=true->S i (vals i) u):=by
 obtain⟨X,d,e⟩:=h;have hv:∀k∈IJ ops m os i++[i],vals k=D6 P n ops mem hints (EG os X) m E k:=map_inj_left.1 d;have b:∀k∈os,((Eu ops m i).contains k||Nat.beq k i)=true->vals k=X k:=λk b hb=>by
  rw[hv k ?_,Rh (contains_iff_mem.2 b)];rw[Bool.or_eq_true]at hb;rcases hb with hb | hb
  ·exact mem_append_left _ (mem_filter.2 ⟨b,hb⟩)
  rw[Nat.eq_of_beq_eq_true hb];simp
 have hr:EG os (ZY ops m i X)=EG os (ZY ops m i vals):=mM λk c=>by
  unfold ZY
  cases hb:((Eu ops m i).contains k||Nat.beq k i)
  ·rfl
  exact(b k c hb).symm
 refine⟨?_,λho=>?_⟩
 ·rw[hv i (by simp),(map_inj_left.1 (a X)) i hi,hr,<-(map_inj_left.1 (a vals)) i hi]
 rw[b i (contains_iff_mem.1 ho) (by rw[Nat.beq_refl,Bool.or_true])];exact e ho
theorem Nw {S:Nat->Value->World->Prop} {vals:Nat->Value} {u:World} {B:List Nat}:∀ {l:List Nat},Fz B vals u (l.map λi=>⟨i,Eu ops m i++xb i,IJ ops m os i++[i],λvs u=>∃X,vs=(IJ ops m os i++[i]).map (D6 P n ops mem hints (EG os X) m E)/\(os.contains i=true->S i (X i) u)⟩)->∀j∈l,B.contains j=true->∃X,(IJ ops m os j++[j]).map vals=(IJ ops m os j++[j]).map (D6 P n ops mem hints (EG os X) m E)/\(os.contains j=true->S j (X j) u)
 | [],_,_,h,_=>by cases h
 | i::l,hb,j,a,hB=>by
  rw[map_cons]at hb;unfold Fz at hb;rcases mem_cons.1 a with rfl | a
  ·simp only[hB]at hb;exact hb.1
  split at hb
  ·exact Nw hb.2 j a hB
  exact Nw hb j a hB
theorem RM {S:Nat->Value->World->Prop} {vals:Nat->Value} {u:World}:∀ {l:List Nat},Fq vals u (l.map λi=>⟨i,Eu ops m i++xb i,IJ ops m os i++[i],λvs u=>∃X,vs=(IJ ops m os i++[i]).map (D6 P n ops mem hints (EG os X) m E)/\(os.contains i=true->S i (X i) u)⟩)->∀j∈l,∃X,(IJ ops m os j++[j]).map vals=(IJ ops m os j++[j]).map (D6 P n ops mem hints (EG os X) m E)/\(os.contains j=true->S j (X j) u)
 | [],_,_,h=>by cases h
 | i::l,hb,j,a=>by
  rw[map_cons]at hb;unfold Fq at hb;rcases mem_cons.1 a with rfl | a
  ·exact hb.1
  exact RM hb.2 j a
theorem Sl {Q:Exit->Act->World->Prop} {d:Array Bool} {C:Array Bool->(Nat->Value)->World->Prop} {Ext:World->World->Prop} {w1:World} (m:List Nat) (mem:List Ax) (hints:List (Nat×Nat×Nat)) (os:List Nat) (xb:Nat->List Nat) (S:Nat->Value->World->Prop) (r:Nat)
  (hC:C d (λ_=>undef) w1) (hM:∀y vals u,C y vals u->∀e∈mem,e.good u) (e0:∀u,Ext u u) (v0:∀a b c:World,Ext a b->Ext b c->Ext a c) (w0:∀i v u u',Ext u u'->S i v u->S i v u') (l0:∀i∈m,os.contains i=false->∀y vals v u,C y vals u->C (y.setIfInBounds i true) (EM vals i v) u)
  (b1:∀i∈os,∀(X:Nat->Value) y u,y.getD i true=false->(∀j,(Eu ops m i++xb i).contains j=true->y.getD j false=true)->C y X u->(∀j,os.contains j=true->(Eu ops m i).contains j=true->S j (X j) u)->AL P (ops.getD i default) (BK n (Ew P n ops mem hints (EG os X) m E i)) u (λv w'=>C (y.setIfInBounds i true) (EM X i v) w'/\Ext u w'/\S i v w'))
  (hok:(F4 .any ops (Dk ops m) d n (Nx P n ops mem hints os m E S xb)&&It ops (Nx P n ops mem hints os m E S xb))=true) (x0:∀X,m.all (GN P n ops mem hints (EG os X) m E)=true)
  (hp:∀X τ,Li P n ops mem hints (EG os X) m E τ=JH P n ops mem hints (EG os X) m E)
  (k0:∀X,m.map (λi=>D6 P n ops mem hints (EG os X) m E i)=m.map (λi=>D6 P n ops mem hints (EG os (ZY ops m i X)) m E i))
  (hk:∀X u,C (m.foldl (λb i=>b.setIfInBounds i true) d) X u->Ext w1 u->(∀i∈m,os.contains i=true->S i (X i) u)->wpAny P .any ops Q r (m.foldl (λb i=>b.setIfInBounds i true) d) (Fr n (DW P n ops mem hints (EG os X) m E)) u):wpAny P .any ops Q (m.length+r) d (Fr n E) w1:=by
 have parts:∀l:List Nat,(∀i∈l,i∈m)->MU P ops n E (Dk ops m) C Ext (Nx P n ops mem hints os m E S xb) (l.map λi=>⟨i,Eu ops m i++xb i,IJ ops m os i++[i],λvs u=>∃X,vs=(IJ ops m os i++[i]).map (D6 P n ops mem hints (EG os X) m E)/\(os.contains i=true->S i (X i) u)⟩):=by
  intro l
  induction l with
  | nil=>intro _;trivial
  | cons i l ih=>
   intro hl;refine⟨⟨λvs u u' he h=>?_,λy vals u d1 i1 hu hb=>?_⟩,ih λj s=>hl j (by simp[s])⟩
   ·obtain⟨X,h1,h2⟩:=h;exact⟨X,h1,λho=>w0 i _ u u' he (h2 ho)⟩
   have z:=hl i (by simp);have hs:=all_eq_true.1 (x0 vals) i z;unfold GN at hs;rw[Bool.and_eq_true]at hs;have p0:∀j∈m,(Eu ops m i).contains j=true->vals j=D6 P n ops mem hints (EG os vals) m E j/\(os.contains j=true->S j (vals j) u):=λj s hB=>ZX k0 s (Nw hb j s (contains_iff_mem.2 (mem_append_left _ (contains_iff_mem.1 hB))));have g0:M1 P n ops mem hints (EG os vals) m E vals i=KY P n ops mem hints (EG os vals) m E i:=by have h1:=hp vals vals;unfold Li JH at h1;exact(map_inj_left.1 h1) i z
   unfold M1 KY at g0;simp only[Prod.mk.injEq]at g0;obtain⟨hop,_,f⟩:=g0;have hρ:∀x∈(ops.getD i default).op.operands,DE n E (Dk ops m) vals x=BK n (Ew P n ops mem hints (EG os vals) m E i) x:=λx hx=>by
    have h2:NP P n ops mem hints (EG os vals) m E vals i x=BK n (Ew P n ops mem hints (EG os vals) m E i) x:=by have t0:x∈(ops.getD i default).op.operands.toList:=Array.mem_toList_iff.2 hx;obtain⟨k,a0⟩:=mem_iff_getElem?.1 t0;have h3:=congrArg (λl=>l[k]?) hop;simp only[getElem?_map,a0,Option.map_some,Option.some.injEq]at h3;exact h3
    rw[<-h2]
    cases x with
    | tmp t=>
     unfold DE NP
     cases hW:(Dk ops m).of t with
     | none=>simp only[hW]
     | some j=>
      simp only[hW]
      cases hc:(Eu ops m i).contains j with
      | false=>rfl
      | true=>
       have s:j∈m:=by unfold Wr.of at hW;obtain⟨p,a1,z0⟩:=Option.map_eq_some_iff.1 hW;have d0:=mem_of_find?_eq_some a1;unfold Dk at d0;obtain⟨k,h0,a0⟩:=mem_filterMap.1 d0;obtain⟨t',_,rfl⟩:=Option.map_eq_some_iff.1 a0;rw[<-z0];exact h0
       exact(p0 j s hc).1
    | _=>rfl
   have i0:∀cs b,(ops.getD i default).op≠.select cs b:=λcs b hh=>by
    have:=hs.1;unfold KQ at this;rw[hh]at this
    cases this
   have f1:∀K',AL P (ops.getD i default) (BK n (Ew P n ops mem hints (EG os vals) m E i)) u K'->AL P (ops.getD i default) (DE n E (Dk ops m) vals) u K':=λK' h=>by unfold AL at h ⊢;rw[execOp_congr _ i0 hρ];exact h
   have g1:∀j,os.contains j=true->(Eu ops m i).contains j=true->j∈m:=λj _ hB=>by have h1:=(FF (by have h:=hok;rw[Bool.and_eq_true]at h;exact h.1)).bef (⟨i,Eu ops m i++xb i,IJ ops m os i++[i],λvs u=>∃X,vs=(IJ ops m os i++[i]).map (D6 P n ops mem hints (EG os X) m E)/\(os.contains i=true->S i (X i) u)⟩:DA) (mem_map.2 ⟨i,z,rfl⟩);obtain⟨o,ho⟩:=(FF (by have h:=hok;rw[Bool.and_eq_true]at h;exact h.1)).op (⟨i,Eu ops m i++xb i,IJ ops m os i++[i],λvs u=>∃X,vs=(IJ ops m os i++[i]).map (D6 P n ops mem hints (EG os X) m E)/\(os.contains i=true->S i (X i) u)⟩:DA) (mem_map.2 ⟨i,z,rfl⟩);have h2:=(h1 o ho j (mem_append_left _ (contains_iff_mem.1 hB))).1;unfold Nx at h2;rw[map_map]at h2;obtain⟨k,h0,a0⟩:=mem_map.1 h2;rw[<-(show k=j from a0)];exact h0
   show AL P (ops.getD i default) (DE n E (Dk ops m) vals) u _;refine f1 _ ?_
   cases hio:os.contains i with
   | true=>
    have h1:=b1 i (contains_iff_mem.1 hio) vals y u d1 (λj s=>i1 j (contains_iff_mem.1 s)) hu λj s hB=>(p0 j (g1 j s hB) hB).2 s;refine AL.mono h1 λv w' ⟨k1,k2,k3⟩=>⟨k1,k2,EM vals i v,map_congr_left λk g=>?_,λ_=>by unfold EM;rw[if_pos rfl];exact k3⟩;rcases mem_append.1 g with g | g
    ·exact(Rh (contains_iff_mem.2 (mem_filter.1 g).1)).symm
    rw[mem_singleton.1 g,Rh hio]
   | false=>
    have c0:∀v,v=D6 P n ops mem hints (EG os vals) m E i->(⟨i,Eu ops m i++xb i,IJ ops m os i++[i],λvs u=>∃X,vs=(IJ ops m os i++[i]).map (D6 P n ops mem hints (EG os X) m E)/\(os.contains i=true->S i (X i) u)⟩:DA).says ((IJ ops m os i++[i]).map (EM vals i v)) u:=λv hv=>by
     refine⟨vals,map_congr_left λk g=>?_,λh=>by rw[hio]at h;cases h⟩;unfold EM
     split
     ·rename_i hki;rw[hki];exact hv
     rename_i hki
     rcases mem_append.1 g with g | g
     ·have h9:=mem_filter.1 g;rw[Rh (contains_iff_mem.2 h9.1)]
     exact absurd (mem_singleton.1 g) hki
    rw[PY,hio]at f hs;simp only[cond_false]at f hs;obtain⟨x,hx⟩:=Option.isSome_iff_exists.1 hs.2;rw[hx]at f;simp only[Option.map_some,Option.some.injEq,Prod.mk.injEq]at f;obtain⟨nx,r0⟩:=x;have q:=f.1
    cases nx with
    | value v=>
     simp only[EK,Option.some.injEq]at q;refine AL.reads ⟨0,mem,Ih hints i,[]⟩ (hM y vals u hu) v (hv:=by rw[hx];rfl) (he:=by rw[hx];exact congrArg some f.2) ⟨l0 i z hio y vals _ u hu,e0 u,c0 v q⟩
    | skip=>
     simp only[EK,Option.some.injEq]at q;have e1:(Dp P (execOp (BK n (Ew P n ops mem hints (EG os vals) m E i)) (ops.getD i default)) ⟨0,mem,Ih hints i,[]⟩)=some (.skip,r0):=hx;have j0:=GK (w:=u) _ _ _ _ e1 (hM y vals u hu) (I0 f.2);unfold AL;rw[j0];exact⟨l0 i z hio y vals _ u hu,e0 u,c0 undef q⟩
    | enter _ _=>simp[EK]at q
    | _=>simp[EK]at q
 have m0:(Nx P n ops mem hints os m E S xb).length=m.length:=by unfold Nx;rw[length_map]
 have b0:(Nx P n ops mem hints os m E S xb).map (·.idx)=m:=by unfold Nx;rw[map_map];exact map_id _
 have c1:m.Nodup:=by have:=FF (by have h:=hok;rw[Bool.and_eq_true]at h;exact h.1);rw[<-b0];exact this.nodup
 refine iG (md:=.any) (fuel:=r) (L:=Nx P n ops mem hints os m E S xb) (W:=Dk ops m) (δ:=C) (Ext:=Ext) hok hC e0 v0 (parts m λi hi=>hi) (by rw[m0]) λvals u hu he q0=>?_;have hv:=λj (s:j∈m)=>ZX k0 s (RM q0 j s);rw[b0,M9 (mem:=mem) (hints:=hints) (specs:=EG os vals) (P:=P) (n:=n) c1 (λj s=>(hv j s).1)];exact hk vals u (by rw[b0]at hu;exact hu) he λi hi ho=>(hv i hi).2 ho
theorem CF {o:Oper} {ρ:Operand->Value} {u:World} {K:Value->World->Prop} {g:FuncId} {xs:List Operand} {args:List Value} (h:Calls P g args.toArray u λe w'=>∃v,e=.returned v/\K v w') (hρ:ρ (.func g)=.func (.func g) #[] #[]) (hc:(R3 o.op,xs.map ρ,Dr P g)=(some (g,xs),args,true):=by kernel_rfl):AL P o ρ u K:=by simp only[Prod.mk.injEq]at hc;obtain⟨b,h2,a⟩:=hc;obtain⟨ats,hop⟩:=TT b;exact AL.call xs (hop:=hop) hρ (ha:=h2) (Cf (h:=a) _ u) h
theorem IB {o:Oper} {ρ:Operand->Value} {u:World} {K:Value->World->Prop} (b:Nat->Value) (zero:List Value) (T:TypeId) (f:∀w',Below (U u) u w'->Ax.good w' ⟨U u,0,zero,T,true⟩->K (b (U u)) w')
  (ha:∀z,(Ce P (execOp ρ o) ⟨z,[],(0,0),[]⟩).map (λr=>(EK r.1,r.2.mem,r.2.eqs))=some (some (b z),[⟨z,0,zero,T,true⟩],[])):AL P o ρ u K:=by
 obtain⟨x,hx,a⟩:=Option.map_eq_some_iff.1 (ha (U u));obtain⟨c,d⟩:=x;simp only[Prod.mk.injEq]at a;obtain⟨g,l,j⟩:=a;have e:c=.value (b (U u))\/(c=.skip/\b (U u)=undef):=by
  cases c<;>simp[EK]at g
  ·exact .inl (by rw[g])
  exact .inr ⟨rfl,g.symm⟩
 refine AL.runsK (O:=[]) (B:=(U u)) ⟨U u,[],(0,0),[]⟩ d c _ (hm:=hx) e (CQ u) (by rw[j];rfl) λw' h i=>?_;exact f w' (i.below (Nat.le_refl _) (λk f=>by cases f)) (h.sat.good _ (by rw[l];simp))
end
def NK:List (Nat×(Value->World->Prop))->Nat->Value->World->Prop
 | [],_,_,_=>True
 | p::r,i,v,u=>match Nat.beq p.1 i with
  | true=>p.2 v u
  | false=>NK r i v u
theorem XL {Ext:World->World->Prop}:∀ {a:List (Nat×(Value->World->Prop))},(∀p∈a,∀v u u',Ext u u'->p.2 v u->p.2 v u')->∀i v u u',Ext u u'->NK a i v u->NK a i v u'
 | [],_,_,_,_,_,_,h=>h
 | p::r,hp,i,v,u,u',he,h=>by
  unfold NK at h ⊢
  split at h
  ·exact hp p (by simp) v u u' he h
  exact XL (λq b=>hp q (by simp[b])) i v u u' he h
theorem FJ {P:Program} {f:FuncId} {R:Ending->World->Prop} {n:Nat} {todo:List Item} {E:Nat->Value} {w0 w:World} {M:List Ax} {L T:List Th} {b:Nat} {ns:List Int} (K:Wk w0 w M L T) (h0:(U w0)=b) (q:Nat) (hq:L[q]?=some (BV w0 b ns)) (m:List Nat) (mem:List Ax) (hints:List (Nat×Nat×Nat)) (c:List (Nat×(Value->World->Prop))) (r:Nat)
  (hM:∀u,Wk w0 u M L T->∀e∈mem,e.good u) (a0:∀p∈c,∀v u o,CU b u o->p.2 v u->p.2 v o)
  (s:∀p∈c,∀(X:Nat->Value) u,Wk w0 u M L T->CU b w u->(∀j,(Eu (Ak todo) m p.1).contains j=true->(c.map (·.1)).contains j=true->NK c j (X j) u)->AL P ((Ak todo).getD p.1 default) (BK n (Ew P n (Ak todo) mem hints (EG (c.map (·.1)) X) m E p.1)) u (λv w'=>Br b ns w'/\CU b u w'/\p.2 v w'))
  (hk:∀X u,Wk w0 u M L T->CU b w u->(∀i∈m,(c.map (·.1)).contains i=true->NK c i (X i) u)->wpAny P .any (Ak todo) (λe a w=>e=.normal/\IM P f R (AO todo) a w) r (m.foldl (λb i=>b.setIfInBounds i true) (Array.replicate (Ak todo).size false)) (Fr n (DW P n (Ak todo) mem hints (EG (c.map (·.1)) X) m E)) u)
  (hd:(GB todo).isSome=true:=by kernel_rfl) (hmo:P.follows .mixedOrders=true:=by kernel_rfl)
  (hok:(F4 .any (Ak todo) (Dk (Ak todo) m) (Array.replicate (Ak todo).size false) n (Nx P n (Ak todo) mem hints (c.map (·.1)) m E (NK c) λ_=>[])&&It (Ak todo) (Nx P n (Ak todo) mem hints (c.map (·.1)) m E (NK c) λ_=>[]),Nat.beq (m.length+r) (Ak todo).size,c.all λp=>(c.map (·.1)).Nodup)=(true,true,true):=by kernel_rfl)
  (hsm:∀X,m.all (GN P n (Ak todo) mem hints (EG (c.map (·.1)) X) m E)=true:=by intro _;kernel_rfl)
  (g:∀X τ,Li P n (Ak todo) mem hints (EG (c.map (·.1)) X) m E τ=JH P n (Ak todo) mem hints (EG (c.map (·.1)) X) m E:=by intro _ _;kernel_rfl)
  (hre:∀X,m.map (λi=>D6 P n (Ak todo) mem hints (EG (c.map (·.1)) X) m E i)=m.map (λi=>D6 P n (Ak todo) mem hints (EG (c.map (·.1)) (ZY (Ak todo) m i X)) m E i):=by intro _;kernel_rfl):At P f R todo (Fr n E) w:=by
 obtain⟨ops,d⟩:=Option.isSome_iff_exists.1 hd;have hr:Ak todo=ops:=by
  unfold GB at d
  split at d
  ·obtain rfl:=Option.some.inj d;rfl
  cases d
 rw[hr]at hok s hk hsm g hre;simp only[Prod.mk.injEq]at hok;obtain⟨hok,z,c0⟩:=hok;have hN:m.length+r=ops.size:=Nat.eq_of_beq_eq_true z;have t:∀(l:List (Nat×(Value->World->Prop))),(l.map (·.1)).Nodup->∀p∈l,NK l p.1=p.2:=by
  intro l
  induction l with
  | nil=>intro _ p g;cases g
  | cons a l ih=>
   intro hn p g;rw[map_cons,nodup_cons]at hn;funext v u;unfold NK;rcases mem_cons.1 g with rfl | g
   ·rw[Nat.beq_refl]
   have b0:Nat.beq a.1 p.1=false:=by
    cases hb:Nat.beq a.1 p.1 with
    | false=>rfl
    | true=>exact absurd (by rw[Nat.eq_of_beq_eq_true hb];exact mem_map_of_mem g) hn.1
   rw[b0];exact congrFun (congrFun (ih hn.2 p g) v) u
 refine DK ops (hd:=d) (hm:=hmo) (m.length+r) (hs:=hN.symm) ?_;rw[<-hN]at hok hk;refine Sl (C:=λ_ _ u=>Wk w0 u M L T/\CU b w u) (Ext:=λu o=>CU b u o) m mem hints (c.map (·.1)) (λ_=>[]) (NK c) r ⟨K.below (Below.refl _ _).drew,.of_below (Below.refl _ _).drew⟩ (λ_ _ u hu=>hM u hu.1) (λu=>CU.refl b u) (λ_ _ _ y h2=>y.trans h2) (λi v u o he h=>XL a0 i v u o he h) (λ_ _ _ _ _ _ _ h=>h) (λi hi X _ u _ _ hu hb=>?_) (by rw[hN]at hok ⊢;exact hok) hsm g hre λX u hu _ x=>hk X u hu.1 hu.2 x;obtain⟨p,k,rfl⟩:=mem_map.1 hi;have hn:(c.map (·.1)).Nodup:=by have:=all_eq_true.1 c0 p k;exact of_decide_eq_true this
 rw[t c hn p k];refine AL.mono (s p k X u hu.1 hu.2 λj y h2=>hb j h2 y) λv w' ⟨y,h2,h3⟩=>⟨⟨hu.1.tick h0 q hq y h2,hu.2.trans h2⟩,h2,h3⟩
noncomputable def EE (P:Program) (n:Nat) (ops:Array Oper) (E:Nat->Value) (ts:List (Nat×Nat×Nat)) (M:List Ax) (z:Nat):(Nat->Value)×List Ax×Nat×List (Nat×Nat):=
 match EH P n ops ts E M z with
 | some q=>q
 | none=>(E,[],0,[])
theorem EL {P:Program} {f:FuncId} {R:Ending->World->Prop} {n:Nat} {todo:List Item} {E:Nat->Value} {w0 u:World} {M:List Ax} {L T:List Th} {ops:Array Oper} {b:Array Bool} (K:Wk w0 u M L T) (ts:List (Nat×Nat×Nat)) (M':Nat->List Ax)
  (l:∀z w',Wk w0 w' (M' z) L T->At P f R todo (Fr n (EE P n ops E ts M z).1) w')
  (ht:∀z,((EH P n ops ts E M z).isSome,(EE P n ops E ts M z).2.1,(EE P n ops E ts M z).2.2.2.map Prod.fst)=(true,M' z,(EE P n ops E ts M z).2.2.2.map Prod.snd):=by intro _;kernel_rfl)
  (hr:Jq ops .any b (ts.map (·.1))=true:=by kernel_rfl):wpAny P .any ops (λe a w=>e=.normal/\IM P f R todo a w) ts.length b (Fr n E) u:=by
 have c:=ht (U u);simp only[Prod.mk.injEq]at c;obtain⟨i,g,d⟩:=c;obtain⟨q,j⟩:=Option.isSome_iff_exists.1 i;have m:EE P n ops E ts M (U u)=q:=by unfold EE;rw[j]
 have h:=l (U u);rw[m]at g d h;exact LW (P:=P) (n:=n) (ops:=ops) (L:=L) (T:=T) (w0:=w0) (fuel:=0) (Q:=λe a w=>e=.normal/\IM P f R todo a w) ts b _ M u K (U u) rfl q j (I0 d) hr λw' a k ha=>⟨rfl,by rw[ha];rw[g]at k;exact(h w' k).mid⟩
theorem GU {P:Program} {ops:Array Oper} {Q:Exit->Act->World->Prop} {n:Nat} {E:Nat->Value} {a:Array Bool} {fuel:Nat} {w:World} (i:Nat) (g:FuncId) (xs:List Operand) (args:List Value)
  (h:Calls P g args.toArray w λe w'=>∃v,e=.returned v/\wpAny P .any ops Q fuel (a.setIfInBounds i true) (Fr n (A8 E (ops.getD i default).dst v)) w')
  (hc:(Region.ready .any ops a,Nat.blt i ops.size,(ops.getD i default).guard,xs.map (BK n E),Dr P g,R3 (ops.getD i default).op)=([i],true,none,args,true,some (g,xs)):=by kernel_rfl):wpAny P .any ops Q (fuel+1) a (Fr n E) w:=by
 simp only[Prod.mk.injEq]at hc;obtain⟨p,c,m,l,k,j⟩:=hc;obtain⟨ats,hop⟩:=TT j;rw[Nat.blt_eq]at c;refine Km p (o:=ops.getD i default) (by simp[Array.getD,c]) m ?_;unfold Oper.wp;rw[D8];generalize ops.getD i default=o at hop h;have e:(execOp (BK n E) o).run P w=.ok (.enter g args.toArray) w:=by rw[<-Cf (h:=k) args.toArray w,<-l];obtain⟨d,op,ty,pos,s,q⟩:=o;simp only at hop;subst hop;unfold execOp resolve;simp only[map_toArray];show((Deferred.ofValue (.func (.func g) #[] #[]) (xs.map (BK n E)).toArray).bind λd=>invoke d.target d.args).run P w=_;unfold Deferred.ofValue;simp[invoke,pure,Sem.bind]
 rw[e];refine h.mono λr w' f=>?_;obtain⟨v,rfl,b⟩:=f;show wpAny P .any ops Q fuel _ ((Fr n E).put o.dst v) w';rw[Eo];exact b
end Go.Proofs.YtkpemkkbjfbmaaaGreat

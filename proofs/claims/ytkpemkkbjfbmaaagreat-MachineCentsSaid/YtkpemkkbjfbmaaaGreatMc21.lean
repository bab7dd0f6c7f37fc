/- Contracts of functions, part 21. -/
import Derived.Test.YtkpemkkbjfbmaaaGreatMc20
import Derived.Test.YtkpemkkbjfbmaaaGreatMc13
import Derived.Test.YtkpemkkbjfbmaaaGreatMc02
import Derived.Test.YtkpemkkbjfbmaaaGreatMc07
set_option linter.all false
namespace Go.Proofs.YtkpemkkbjfbmaaaGreat
open List
noncomputable section
open Go.RowKit
set_option maxRecDepth 100000
set_option maxHeartbeats 1000000
abbrev NT:=Nat×List Nat×Option Addr×Nat
abbrev Lj (x:NT):Nat×SlP:=(x.1,x.2.2.1,x.2.1.length,x.2.2.2)
abbrev mo (x:NT):Th:=Bc x.2.2.1 x.2.2.2 x.2.1
abbrev JP (x:NT):Nat×List Nat:=(x.1,x.2.1)
abbrev IA (xs:List NT):Th:=Th.all (xs.map mo)
theorem AY.rowSpot {α:Type} {b:Nat} {w:World} {L:List Th} {T:TypeId} {n:Nat} {d:α->List Value->Prop} {A:Option Addr} {c:Nat} {l:List α} (h:AY b w L) (i:Nat) (hi:L[i]?=some (Th.row T n d A c l)):∀a,A=some a->a.spot=none:=by
 obtain⟨rs,hr,ho⟩:(Th.row T n d A c l).P w:=h.all i _ hi;intro a ha;rcases ho.2 with⟨e,j⟩ | ⟨g,cap,f,e,_⟩
 ·injection e with e1
  rw[e1]at ha
  cases ha
 injection e with e1
 rw[e1]at ha;injection ha with ha
 rw[<-ha]
theorem xq {w:World} {xs:List NT} (hf:(IA xs).P w) (i:Nat):∃A c,(Bf (xs.map Lj) i).getD (none,0,0)=(A,((Bf (xs.map JP) i).getD []).length,c)/\rowsNat w A ((Bf (xs.map JP) i).getD []):=by
 induction xs with
 | nil=>exact⟨none,0,rfl,.inl rfl⟩
 | cons x xs ih=>
  rw[map_cons,map_cons,Bf,Bf];by_cases hx:x.1=i
  ·rw[if_pos hx,if_pos hx];have d:(mo x).P w:=hf _ (by simp);have H:AY 0 w [mo x]:=⟨Nat.zero_le _,λj t ht=>by
     cases j with
     | zero=>obtain rfl:=Option.some.inj ht;exact d
     | succ j=>simp at ht,λj t ht k e=>by
     cases j with
     | zero=>
      obtain rfl:=Option.some.inj ht;obtain⟨rs,hr,ho⟩:=d;have a:x.2.2.1=θ k:=e;exact⟨Nat.zero_le _,(DC ho (g:=k) (by rw[a];rfl)).2⟩
     | succ j=>simp at ht,λj k s t hs ht b=>by
     cases j with
     | zero=>cases k with
      | zero=>exact absurd rfl b
      | succ k=>simp at ht
     | succ j=>simp at hs⟩
   exact⟨x.2.2.1,x.2.2.2,rfl,H.rowsNat 0 rfl⟩
  rw[if_neg hx,if_neg hx];exact ih λu hu=>hf u (by simp at hu ⊢;exact .inr hu)
theorem xj (n d:Int) (f:-1000000000000<=n) (h2:n<=1000000000000) (e:1<=d) (c:d<=1000000) :
  ∃p q:Int,D1 n d=(p,q,0)/\-1000000000000<=p/\p<=1000000000000/\0<=q/\q<=1000000:=by
 have b:n.natAbs/Nat.gcd n.natAbs d.natAbs<=1000000000000:=Nat.le_trans (Nat.div_le_self _ _) (by omega);have a:d.natAbs/Nat.gcd n.natAbs d.natAbs<=1000000:=Nat.le_trans (Nat.div_le_self _ _) (by omega);refine⟨_,_,by unfold D1;rw[if_neg (by omega)];exact P0 (Lib.hid rfl) rfl rfl b a,?_,?_,?_,?_⟩
 ·generalize n.natAbs/Nat.gcd n.natAbs d.natAbs=x at *
  split<;>omega
 ·generalize n.natAbs/Nat.gcd n.natAbs d.natAbs=x at *
  split<;>omega
 ·exact Int.natCast_nonneg _
 exact Int.ofNat_le.2 a
def bE (b:Nat) (ns:List Int) (w:World) (e:Ending) (w':World):Prop:=
 ∃n d:Int,(-1000000000000<=n/\n<=1000000000000/\0<=d/\d<=1000000)/\e=.returned (.agg #[J n,J d])/\Br b ns w'/\CU b w w'
def F3 (b:Nat) (ns:List Int) (w:World) (e:Ending) (w':World):Prop:=
 ∃n d:Int,e=.returned (.agg #[J n,J d])/\Br b ns w'/\CU b w w'
attribute [local irreducible] BI BQ AD AE AG Au Ab AO A8 Bi Ct BX EH DW BO At Fr
noncomputable def X3:Code:=Tryz.f59.body.getD .skip
def i7:=ν [.code X3]
def i6:=Ψ i7
def i5:=Ψ i6
def VD:=Ψ i5
def i4:=Θ VD
def iz:=Ψ i4
def L8:=Ψ iz
def VC:=Ξ VD
def yp:=Θ VC
def iy:=Ξ VC
def ZI:=Θ iy
def xY:=Ψ ZI
def ZH:=Ψ L8
def xX:=Ξ ZH
theorem Wk.newB {w0 u w:World} {M:List Ax} {X T:List Th} {b:Nat} {ns:List Int} (K:Wk w0 u M (BV w0 b ns::X) T) (f:(U w0)=b) (_:Below (U w0) w0 w) (j:Nat) {e:Ax} (c:M[j]?=some e):e.id≠b:=λh=>by
 have d:(M.map Th.ent++((BV w0 b ns::X)++T))[j]?=some (Th.ent e):=by have a:=(List.getElem?_eq_some_iff.1 c).1;rw[getElem?_append_left (by rw[length_map];exact a),getElem?_map,c];rfl
 have a:=(List.getElem?_eq_some_iff.1 c).1;exact K.H.apart j (K.ix 0) _ _ d (K.at 0 rfl) (by unfold Wk.ix;omega) e.id rfl h
theorem mC (b:Nat) (ns:List Int) (w:World) (hT:Br b ns w):Calls Tryz.prog 59 ([Z b]:List Value).toArray w (bE b ns w):=by
 refine AS (fn:=Tryz.f59) (c:=X3) (n:=47) ?_;obtain⟨w0,f,K0⟩:=Wk.tape hT;have hw:=K0.B;refine An i7 [N (U w) [J 0,J 0] 47] K0 [] λw1 K1=>?_;refine BS K1 f 0 rfl (Be b ns 41 _ (K1.tapeOk f 0 rfl) (by omega) (by omega)) Bl.ok λe w2 g K2=>?_;obtain⟨k1,r0,rfl,_,_⟩:=g;refine⟨_,rfl,?_⟩;refine AC i6 K2 [] λw3 K3=>?_;refine BS K3 f 0 rfl (Be b ns 12 _ (K3.tapeOk f 0 rfl) (by omega) (by omega)) Bl.ok λe w4 g K4=>?_;obtain⟨k3,q0,rfl,_,_⟩:=g;refine⟨_,rfl,?_⟩;refine AC i5 K4 [] λw5 K5=>?_;refine BS K5 f 0 rfl (Be b ns 8 _ (K5.tapeOk f 0 rfl) (by omega) (by omega)) Bl.ok λe w6 g K6=>?_;obtain⟨k5,p0,rfl,_,_⟩:=g;refine⟨_,rfl,?_⟩;have fin:∀(n d:Int) (E:Nat->Value) (M:List Ax) (u:World),-1000000000000<=n->n<=1000000000000->1<=d->d<=1000000->Wk w0 u ((N (U w) [J 0,J 0] 47)::M) [BV w0 b ns,CI b w] []->At Tryz.prog 59 (bE b ns w) L8 (Fr 47 (BN E [(2,Z (U w)),(3,J (n)),(36,J (n)),(37,J (d))])) u:=λn d E M u a1 a2 a3 a4 Ku=>by obtain⟨p,q,b0,hb⟩:=xj n d a1 a2 a3 a4;have hc:=RH n d u (by omega) (by omega) (by omega) (by omega);rw[b0]at hc;refine AW (Ku.pk [0] [0,1] (M':=[N (U w) [J 0,J 0] 47]) (L':=[BV w0 b ns,CI b w])) (args:=[J n,J d]) (v:=.tuple #[.agg #[J p,J q],J 0]) hc λs K7=>?_;refine An ZH [N (U w) [J 0,J 0] 47,N (U s) [J p,J q] 47] K7 [(1,0)] λw8 r=>?_;refine AH false (λh=>absurd h Bool.false_ne_true) (λ_=>?_);refine An xX [N (U w) [J p,J q] 47,N (U s) [J p,J q] 47] r [(1,0),(0,0)] λt m=>?_;exact AN m (0,0) (D [J p,J q]) ⟨p,q,hb,rfl,m.out f hw⟩
 refine AC VD K6 [] λs K7=>?_;refine AH ((k5:Int)==5) (λ_=>?_) (λ_=>?_)
 ·refine An i4 [N (U w) [J 0,J 0] 47,N (U s) [J (1000000000000),J (-1000000000000),J (999999999999),J (999999)] 3] K7 [] λw8 r=>?_;refine BS r f 0 rfl (Ji b ns (U s) [1000000000000,-1000000000000,999999999999,999999] 4 _ (r.tapeOk f 0 rfl) (r.newB f hw 1 rfl) (by decide) (by decide) (r.ent 1 rfl)) (λ_ _ ⟨_,_,_,z,h2⟩=>⟨z,h2⟩) λe t g m=>?_;obtain⟨n,hn,rfl,_,_⟩:=g;refine⟨_,rfl,?_⟩;refine An iz [N (U w) [J 0,J 0] 47,N (U s) [J (1000000000000),J (-1000000000000),J (999999999999),J (999999)] 3,N (U t) [J (1),J (1000000),J (7),J (100)] 3] m [] λo a=>?_;refine BS a f 0 rfl (Ji b ns (U t) [1,1000000,7,100] 4 _ (a.tapeOk f 0 rfl) (a.newB f hw 2 rfl) (by decide) (by decide) (a.ent 2 rfl)) (λ_ _ ⟨_,_,_,z,h2⟩=>⟨z,h2⟩) λe j g l=>?_;obtain⟨d,hd,rfl,_,_⟩:=g;refine⟨_,rfl,?_⟩;refine AC L8 l [] λx i=>?_;refine AX [(2,Z (U w)),(3,J (n)),(36,J (n)),(37,J (d))] λg0=>?_;have y:-1000000000000<=n/\n<=1000000000000:=by simp at hn;omega
  have k:1<=d/\d<=1000000:=by simp at hd;omega
  exact fin n d g0 _ x y.1 y.2 k.1 k.2 i
 refine AC VC K7 [] λw8 r=>?_;refine AH ((k5:Int)==6) (λ_=>?_) (λ_=>?_)
 ·refine AC yp r [] λt m=>?_;refine BS m f 0 rfl (Be b ns 200001 _ (m.tapeOk f 0 rfl) (by omega) (by omega)) Bl.ok λe o g a=>?_;obtain⟨k9,m0,rfl,_,_⟩:=g;refine⟨_,rfl,?_⟩;refine AC L8 a [] λj l=>?_;refine AX [(2,Z (U w)),(3,J (IntKind.i64.wrap ((k9:Int)-100000))),(36,J (IntKind.i64.wrap ((k9:Int)-100000))),(37,J (100))] λi0=>?_;exact fin _ 100 i0 [] j (by rw[IntWalk.i64_in _ (by omega)];omega) (by rw[IntWalk.i64_in _ (by omega)];omega) (by decide) (by decide) l
 refine AC iy r [] λt m=>?_;refine AH ((k5:Int)==7) (λ_=>?_) (λ_=>?_)
 ·refine AC ZI m [] λo a=>?_;refine BS a f 0 rfl (Be b ns 1000 _ (a.tapeOk f 0 rfl) (by omega) (by omega)) Bl.ok λe j g l=>?_;obtain⟨ka,l0,rfl,_,_⟩:=g;refine⟨_,rfl,?_⟩;refine An xY [N (U w) [J 0,J 0] 47,N (U j) [J (1000000),J (999983),J (65536),J (1000)] 3] l [] λx i=>?_;refine BS i f 0 rfl (Ji b ns (U j) [1000000,999983,65536,1000] 4 _ (i.tapeOk f 0 rfl) (i.newB f hw 1 rfl) (by decide) (by decide) (i.ent 1 rfl)) (λ_ _ ⟨_,_,_,z,h2⟩=>⟨z,h2⟩) λe k0 g d0=>?_;obtain⟨d,hd,rfl,_,_⟩:=g;refine⟨_,rfl,?_⟩;refine AC L8 d0 [] λa0 c0=>?_;refine AX [(2,Z (U w)),(3,J ((ka:Int))),(36,J ((ka:Int))),(37,J (d))] λe0=>?_;have k:1<=d/\d<=1000000:=by simp at hd;omega
  exact fin _ d e0 _ a0 (by omega) (by omega) k.1 k.2 c0
 refine AC L8 m [] λo a=>?_;refine AX [(2,Z (U w)),(3,J (IntKind.i64.wrap ((k1:Int)-20))),(36,J (IntKind.i64.wrap ((k1:Int)-20))),(37,J (IntKind.i64.wrap (1+(k3:Int))))] λj0=>?_;exact fin _ _ j0 [] o (by rw[IntWalk.i64_in _ (by omega)];omega) (by rw[IntWalk.i64_in _ (by omega)];omega) (by rw[IntWalk.i64_in _ (by omega)];omega) (by rw[IntWalk.i64_in _ (by omega)];omega) a
noncomputable def X2:Code:=Tryz.f32.body.getD .skip
def iw:=ν [.code X2]
def iv:=Ψ iw
def VB:=Ψ iv
def yo:=Θ VB
def VA:=Ξ VB
def iu:=Θ VA
def yl:=Ψ iu
def yk:=Ξ VA
theorem OA (b:Nat) (ns:List Int) (w:World) (u:Br b ns w):Calls Tryz.prog 32 ([Z b]:List Value).toArray w (F3 b ns w):=by
 refine AS (fn:=Tryz.f32) (c:=X2) (n:=25) ?_;obtain⟨w0,a,t⟩:=Wk.tape u;have i:=t.B;refine An iw [N (U w) [J 0,J 0] 47] t [] λw1 s=>?_;refine BS s a 0 rfl (mC b ns _ (s.tapeOk a 0 rfl)) (λ_ _ ⟨_,_,_,_,m,h2⟩=>⟨m,h2⟩) λe g h z=>?_;obtain⟨n,d,_,rfl,_,_⟩:=h;refine⟨_,rfl,?_⟩;refine An iv [N (U w) [J 0,J 0] 47,N (U g) [J n,J d] 47] z [(1,0)] λw3 r=>?_;refine BS r a 0 rfl (Be b ns 10 _ (r.tapeOk a 0 rfl) (by omega) (by omega)) Bl.ok λe w4 h y=>?_;obtain⟨k,hk,rfl,_,_⟩:=h;refine⟨_,rfl,?_⟩;refine AC VB y [] λw5 q=>?_;refine AH ((k:Int)==8) (λ_=>?_) (λ_=>?_)
 ·refine An yo [N (U w) [J (IntKind.i64.wrap (2*n)),J (IntKind.i64.wrap (2*d))] 47,N (U g) [J (IntKind.i64.wrap (2*n)),J (IntKind.i64.wrap (2*d))] 47] q [(1,0),(1,1),(1,0),(1,1),(1,0),(0,0)] λo f=>?_;exact AN f (0,0) (D [J (IntKind.i64.wrap (2*n)),J (IntKind.i64.wrap (2*d))]) ⟨_,_,rfl,f.out a i⟩
 refine AC VA q [] λl p=>?_;refine AH ((k:Int)==9) (λ_=>?_) (λ_=>?_)
 ·refine An iu [N (U w) [J 0,J 0] 47,N (U g) [J n,J d] 47,N (U l) [J (0),J (-1),J (1000001)] 3] p [] λw7 j=>?_;refine BS j a 0 rfl (Ji b ns (U l) [0,-1,1000001] 3 _ (j.tapeOk a 0 rfl) (j.newB a i 2 rfl) (by decide) (by decide) (j.ent 2 rfl)) (λ_ _ ⟨_,_,_,m,h2⟩=>⟨m,h2⟩) λe w8 h v=>?_;obtain⟨x,hx,rfl,_,_⟩:=h;refine⟨_,rfl,?_⟩;refine An yl [N (U w) [J (n),J (x)] 47,N (U g) [J (n),J (x)] 47,N (U l) [J (0),J (-1),J (1000001)] 3] v [(1,1),(1,0),(0,0)] λo f=>?_;exact AN f (0,0) (D [J (n),J (x)]) ⟨_,_,rfl,f.out a i⟩
 refine An yk [N (U w) [J (n),J (d)] 47,N (U g) [J (n),J (d)] 47] p [(1,0),(0,0)] λo f=>?_;exact AN f (0,0) (D [J (n),J (d)]) ⟨_,_,rfl,f.out a i⟩
end
end Go.Proofs.YtkpemkkbjfbmaaaGreat
namespace Go.Proofs.YtkpemkkbjfbmaaaGreat
open List
noncomputable section
open Go.RowKit
set_option maxRecDepth 100000
set_option maxHeartbeats 1000000
attribute [local irreducible] BI BQ AD AE AG Au Ab AO A8 Bi Ct BX BO At Fr
def D5 (p0:Bool):Int×Int:=cond (p0) ((1,1)) ((0,1))
def Mr (r:Int×Int):Value:=D [J (r.1),J (r.2)]
noncomputable def aP:Code:=Tryz.f107.body.getD .skip
def cS:=ν ([.code aP])
def AEF:=Θ cS
def AEE:=Ξ cS
theorem KS (a:Bool) (w:World):Calls Tryz.prog 107 ([I a]:List Value).toArray w λe w'=>e=.returned (Mr (D5 a))/\Below (U w) w w':=by
 refine AS (fn:=Tryz.f107) (c:=aP) (n:=6) ?_;have h:=Wk.start w;refine Ar cS h [] λk d=>?_;refine AH (a) (λb=>?_) (λb=>?_)
 ·refine Ar AEF d [(0,0)] λj g=>?_;exact AQ g (0,0) _ (by unfold D5;rw[b]<;>rfl)
 refine Ar AEE d [(0,0)] λi f=>?_;exact AQ f (0,0) _ (by unfold D5;rw[b]<;>rfl)
def DG (p0:Int) (p1a:Int) (p1b:Int) (p2a:Int) (p2b:Int):Int×Int×Int:=cond (p0==5) (FL p1a p1b p2a p2b) (cond (p0==6) (PW p1a p1b p2a p2b) (cond (p0==7) (Pp p1a p1b p2a p2b) (cond (p0==8) (L3 p1a p1b p2a p2b) (cond (p0==9) (((D5 (decide (Ev p1a p1b p2a p2b<0))).1,(D5 (decide (Ev p1a p1b p2a p2b<0))).2,0)) (cond (p0==10) (((D5 (decide (Ev p1a p1b p2a p2b<=0))).1,(D5 (decide (Ev p1a p1b p2a p2b<=0))).2,0)) (cond (p0==11) (((D5 (Ev p1a p1b p2a p2b==0)).1,(D5 (Ev p1a p1b p2a p2b==0)).2,0)) (cond (p0==12) (cond (decide (0<Ev p1a p1b p2a p2b)) ((p2a,p2b,0)) ((p1a,p1b,0))) (cond (p0==13) (cond (decide (Ev p1a p1b p2a p2b<0)) ((p2a,p2b,0)) ((p1a,p1b,0))) ((0,0,1))))))))))
def gP (r:Int×Int×Int):Value:=.tuple #[D [J (r.1),J (r.2.1)],J (r.2.2)]
noncomputable def aQ:Code:=Tryz.f108.body.getD .skip
def cX:=ν ([.code aQ])
def sU:=Θ cX
def AEI:=Ψ sU
def cW:=Ξ cX
def sT:=Θ cW
def AEH:=Ψ sT
def cU:=Ξ cW
def sS:=Θ cU
def AEG:=Ψ sS
def cT:=Ξ cU
def jC:=Θ cT
def yz:=Ψ jC
def jB:=Ξ cT
def VK:=Ψ jB
def jA:=Θ VK
def yy:=Ψ jA
def VJ:=Ξ VK
def i9:=Θ VJ
def yx:=Ψ i9
def VI:=Ξ VJ
def i8:=Θ VI
def yw:=Ψ i8
def VH:=Ξ VI
def VG:=Θ VH
def yv:=Θ VG
def yu:=Ξ VG
def VF:=Ξ VH
def VE:=Θ VF
def yt:=Θ VE
def yr:=Ξ VE
def yq:=Ξ VF
theorem XU (p f d b a:Int) (w:World):Calls Tryz.prog 108 ([J p,D [J f,J d],D [J b,J a]]:List Value).toArray w λe w'=>e=.returned (gP (DG p f d b a))/\Below (U w) w w':=by
 refine AS (fn:=Tryz.f108) (c:=aQ) (n:=70) ?_;have K1:=Wk.start w;refine Ar cX K1 [] λw1 K2=>?_;refine AH (p==5) (λm=>?_) (λm=>?_)
 ·refine AC sU K2 [(0,0),(1,0)] λw3 K3=>?_;refine AW K3 (YU f d b a w3) λw4 K4=>?_;refine Ar AEI K4 [(2,0)] λw5 K5=>?_;exact AQ K5 (2,0) _ (by unfold DG;rw[m]<;>rfl)
 refine AC cW K2 [] λw6 K6=>?_;refine AH (p==6) (λo=>?_) (λo=>?_)
 ·refine AC sT K6 [(0,0),(1,0)] λw8 K7=>?_;refine AW K7 (qM f d b a w8) λw9 K8=>?_;refine Ar AEH K8 [(2,0)] λq2 K9=>?_;exact AQ K9 (2,0) _ (by unfold DG;rw[m,o]<;>rfl)
 refine AC cU K6 [] λp2 c0=>?_;refine AH (p==7) (λg=>?_) (λg=>?_)
 ·refine AC sS c0 [(0,0),(1,0)] λj0 m1=>?_;refine AW m1 (qc f d b a j0) λo2 l1=>?_;refine Ar AEG l1 [(2,0)] λn2 k1=>?_;exact AQ k1 (2,0) _ (by unfold DG;rw[m,o,g]<;>rfl)
 refine AC cT c0 [] λm2 b0=>?_;refine AH (p==8) (λh=>?_) (λh=>?_)
 ·refine AC jC b0 [(0,0),(1,0)] λi0 i1=>?_;refine AW i1 (Xu f d b a i0) λl2 h1=>?_;refine Ar yz h1 [(2,0)] λk2 g1=>?_;exact AQ g1 (2,0) _ (by unfold DG;rw[m,o,g,h]<;>rfl)
 refine AC jB b0 [(0,0),(1,0)] λh0 f1=>?_;refine AW f1 (P7 f d b a h0) λi2 e1=>?_;refine AC VK e1 [] λh2 a0=>?_;refine AH (p==9) (λi=>?_) (λi=>?_)
 ·refine AC jA a0 [] λg0 d1=>?_;refine AW d1 (KS (decide (Ev f d b a<0)) g0) λg2 c1=>?_;refine Ar yy c1 [(2,0)] λf2 b1=>?_;exact AQ b1 (2,0) _ (by unfold DG;rw[m,o,g,h,i]<;>rfl)
 refine AC VJ a0 [] λe2 z=>?_;refine AH (p==10) (λj=>?_) (λj=>?_)
 ·refine AC i9 z [] λe0 a1=>?_;refine AW a1 (KS (decide (Ev f d b a<=0)) e0) λd2 z0=>?_;refine Ar yx z0 [(2,0)] λb2 x0=>?_;exact AQ x0 (2,0) _ (by unfold DG;rw[m,o,g,h,i,j]<;>rfl)
 refine AC VI z [] λa2 y=>?_;refine AH (p==11) (λk=>?_) (λk=>?_)
 ·refine AC i8 y [] λd0 w0=>?_;refine AW w0 (KS (Ev f d b a==0) d0) λz1 v0=>?_;refine Ar yw v0 [(2,0)] λy1 t0=>?_;exact AQ t0 (2,0) _ (by unfold DG;rw[m,o,g,h,i,j,k]<;>rfl)
 refine AC VH y [] λx1 x=>?_;refine AH (p==12) (λl=>?_) (λl=>?_)
 ·refine AC VG x [] λv1 v=>?_;refine AH (decide (0<Ev f d b a)) (λs=>?_) (λs=>?_)
  ·refine Ar yv v [(1,0),(2,0)] λt1 r0=>?_;exact AQ r0 (2,0) _ (by unfold DG;rw[m,o,g,h,i,j,k,l,s]<;>rfl)
  refine Ar yu v [(0,0),(2,0)] λs1 q0=>?_;exact AQ q0 (2,0) _ (by unfold DG;rw[m,o,g,h,i,j,k,l,s]<;>rfl)
 refine AC VF x [] λr1 u=>?_;refine AH (p==13) (λq=>?_) (λq=>?_)
 ·refine AC VE u [] λq1 t=>?_;refine AH (decide (Ev f d b a<0)) (λr=>?_) (λr=>?_)
  ·refine Ar yt t [(1,0),(2,0)] λp1 m0=>?_;exact AQ m0 (2,0) _ (by unfold DG;rw[m,o,g,h,i,j,k,l,q,r]<;>rfl)
  refine Ar yr t [(0,0),(2,0)] λo1 l0=>?_;exact AQ l0 (2,0) _ (by unfold DG;rw[m,o,g,h,i,j,k,l,q,r]<;>rfl)
 refine AC yq u [(2,0)] λn1 k0=>?_;exact AQ k0 (2,0) _ (by unfold DG;rw[m,o,g,h,i,j,k,l,q]<;>rfl)
def CA (ds:List (Df)) (p1:Int):List (Nat)->Int->List Nat->List (Nat×List Nat)->List Nat×List (Nat×List Nat)×Int
 | [],a0_0,a0_1,a0_2=>(a0_1,a0_2,0)
 | e0::tl,a0_0,a0_1,a0_2=>cond (!(BM (ds.getD e0 default))) (CA ds p1 tl a0_0 a0_1 a0_2) (cond (!(((Cu ds (As ds p1) e0)).2==0)) (([],[],((Cu ds (As ds p1) e0)).2)) (CA ds p1 tl a0_0 (a0_1++[e0]) ((e0,((Cu ds (As ds p1) e0)).1)::a0_2)))
theorem Po {ds:List (Df)} {p1:Int} {c:Int} {b:List Nat} {a:List (Nat×List Nat)}:CA ds p1 [] c b a=((b,a,0)):=by rw[CA]
theorem Ow {ds:List (Df)} {p1:Int} {c:Int} {b:List Nat} {a:List (Nat×List Nat)} {es:List (Nat)} (i d:Nat) (hi:es[i]?=some d):CA ds p1 (es.drop i) c b a=(cond (!(BM (κ ds d))) (CA ds p1 (es.drop (i+1)) c b a) (cond (!(((Cu ds (As ds p1) d)).2==0)) (([],[],((Cu ds (As ds p1) d)).2)) (CA ds p1 (es.drop (i+1)) c (b++[d]) ((d,((Cu ds (As ds p1) d)).1)::a)))):=by have hl:i<es.length:=(List.getElem?_eq_some_iff.1 hi).1;have he:es[i]=d:=(List.getElem?_eq_some_iff.1 hi).2;rw[<-getElem_cons_drop hl,CA]<;>(try rw[he])
def Bj (p0a:List UInt8) (ds:List (Df)) (p1:Int):List Nat×List (Nat×List Nat)×Int:=cond (!(Ee p0a ds p1==0)) (([],[],Ee p0a ds p1)) (CA ds p1 (As ds p1) 0 ([]) ([]))
noncomputable def nY:Code:=Tryz.f53.body.getD .skip
def AAm:=ν ([.code nY])
def d9:=Ψ AAm
def AHR:=Θ d9
def pZ:=AB (Aq Ig 90 (AG d9)) (AG d9)
def AAl:=Ψ pZ
def d8:=Ψ AAl
def d7:=ν (Au d8)
def pY:=AB (Aq Aa 90 (AE d7)) (AE d7)
def AAk:=AB (Aq Aa 90 (AD (AD pY))) (AD (AD pY))
def AAj:=ν (AD (AD AAk))
def tw:=Ψ AAj
def tv:=Ξ tw
def UK:=Ψ tv
def AE1:=Θ UK
def UJ:=AB (Aq BH 90 (AG UK)) (AG UK)
def tu:=AB (Aq RZ 90 (AD UJ)) (AD UJ)
def AE0:=Ξ d7
theorem XP (a:List UInt8) (u:Option Addr) (ds:List (Df)) (j:Nat) (p1:Int) (w:World) (p0:rowsDf w u ds) (d1:ds.length<=4294967296) (hs:a.length<=4294967296) (ht:∀d∈ds,Ii d) (v1:∀d∈ds,EB d.body) (hn:∀d∈ds,nE d.body<=1000000):Calls Tryz.prog 53 ([D [Y a,V u ds.length j],J p1]:List Value).toArray w λe w'=>(∃(s1:Option Addr) (q1 r1:Nat) (c1:List NT),e=.returned (.tuple #[D [V s1 ((((Bj a ds p1)).1).length) q1,.map (some r1)],J (((Bj a ds p1)).2.2)])/\c1.map JP=((Bj a ds p1)).2.1/\Below (U w) w w'/\((Bj a ds p1)).2.2=0/\AY (U w) w' [Bc s1 q1 (((Bj a ds p1)).1),Ag.th LI r1 (c1.map Lj),IA c1])\/(e=.returned (.tuple #[D [V none 0 0,.map none],J (((Bj a ds p1)).2.2)])/\¬((Bj a ds p1)).2.2=0/\Below (U w) w w'):=by
 refine AS (fn:=Tryz.f53) (c:=nY) (n:=61) ?_;have K1:=Wk.start w;refine An AAm [N (U w) [Y a,V u ds.length j] 27,N (U w+1) [V none 0 0,.map none] 122] K1 [(0,0)] λw1 K2=>?_;refine AW K2 (args:=[D [Y a,V u ds.length j],J p1]) (Rq a _ ds _ p1 w1 (p0.below K2.B) d1 hs ht) λw2 K3=>?_;refine AC d9 K3 [] λw3 K4=>?_;refine AH (!(Ee a ds p1==0)) (λc4=>?_) (λc4=>?_)
 ·have K5:=K4.addNil 3 1 (λe r=>r=F7 e);refine AC AHR K5 [(1,0)] λw5 K6=>?_;have hS:(Bj a ds p1)=([],[],Ee a ds p1):=by unfold Bj;rw[c4]<;>rfl
  exact AN K6 (1,0) (.tuple #[D [V none 0 0,.map none],J (Ee a ds p1)]) (.inr ⟨by rw[hS]<;>rfl,by rw[hS];simpa using c4,K6.B⟩)
 refine Ao Ig pZ K4 [] λw6 K7=>?_;refine Je LI K7.H (Cr pZ) (by kernel_rfl) (t:=120) (by kernel_rfl) λw7 Z7 Hn b7=>?_;have K8:=K7.add b7 Hn;have K9:=K8.addFam mo;refine An AAl [N (U w) [Y a,V u ds.length j] 27,N (U w+1) [V none 0 0,.map none] 122,N (U w7) [V none 0 0,.map (some (U w6))] 122] K9 [(2,0),(0,0)] λw8 e2=>?_;refine BL (R8 a u ds j p1 w8 (p0.below e2.B) (by first | assumption | omega | (simp<;>omega))) λen e4 hh=>?_;obtain⟨b0,b,rfl,r2,Hn⟩:=hh;refine⟨_,rfl,?_⟩;have i3:=e2.join r2 Hn;have g4:=L4 (ds:=ds) (p1:=p1);refine AC d8 i3 [] λk2 h3=>?_;have g3:Wk w k2 [N (U w) [Y a,V u ds.length j] 27,N (U w+1) [V none 0 0,.map none] 122,N (U w7) [V none 0 0,.map (some (U w6))] 122] [(Ag.th LI (U w6) (([]:List NT).map Lj)),(IA ([])),(Bc b0 b (As ds p1))] []:=h3.pk [0,1,2] [0,1,2];have f3:=g3.addNil 3 1 (λe r=>r=F7 e);have c0:(Bj a ds p1)=CA ds p1 (As ds p1) 0 ([]) ([]):=by unfold Bj;rw[c4]<;>rfl
 refine AX [(2,Z (U w)),(4,Z (U w+1)),(5,J 0),(7,Z (U w7)),(8,V b0 ((As ds p1).length) b),(25,V b0 ((As ds p1).length) b),(26,J (((As ds p1).length:Int))),(27,J (((0:Nat):Int)))] λm3=>?_;refine Bp (by kernel_rfl) (λE o1=>∃(v:Nat) (a0:Int) (i:List Nat) (h:List NT) (o:Option Addr) (m:Nat) (E0:Nat->Value),v<=(As ds p1).length/\E=BN E0 [(2,Z (U w)),(4,Z (U w+1)),(5,J a0),(7,Z (U w7)),(8,V b0 ((As ds p1).length) b),(25,V b0 ((As ds p1).length) b),(26,J (((As ds p1).length:Int))),(27,J ((v:Int)))]/\(Bj a ds p1)=CA ds p1 (List.drop v (As ds p1)) a0 i (h.map JP)/\i.length<=1*v+0/\h.length<=1*v+0/\Wk w o1 [N (U w) [Y a,V u ds.length j] 27,N (U w+1) [V none 0 0,.map none] 122,N (U w7) [V o i.length m,.map (some (U w6))] 122] [(Ag.th LI (U w6) (h.map Lj)),(IA h),(Bc b0 b (As ds p1)),(Bc o m i)] []) (λE _=>(As ds p1).length-AP (E 27)) ⟨0,0,([]),([]),none,0,m3,Nat.zero_le _,rfl,c0,by simp,by simp,f3⟩ ?_;clear c0;rintro E o1 ⟨v,a0,i,h,o,m,E0,h4,rfl,c0,n2,m2,e3⟩ g0;refine AC d7 e3 [] λb4 t0=>?_;refine AH (decide ((v:Int)<((As ds p1).length:Int))) (λi1=>?_) (λi1=>?_)
 ·have m0:v<(As ds p1).length:=by have:=of_decide_eq_true i1;omega
  obtain⟨p,h0⟩:∃e,(As ds p1)[v]?=some e:=⟨_,getElem?_eq_getElem m0⟩;rw[Ow v p h0]at c0;obtain⟨d0,rfl,n3⟩:=t0.H.rowAt (t0.ix 2) (t0.at 2 rfl) (by omega);refine Ao Aa pY t0 [] λa4 z0=>?_;refine Aw (g:=d0) (off:=0) (cap:=b) (sz:=1) (k:=v) (len:=(As ds p1).length) (some 29) m0 Tryz.underlying22 ?_;refine EF 3 d0 (0+v*1) (J ((p:Int))) (some 30) (by simpa using(z0.H.cellsF (T:=3) (n:=1) (f:=F7) (c:=b) (l:=(As ds p1)) (λ_=>rfl) (z0.ix 2) (z0.at 2 rfl) h0) 0 _ rfl) ?_;obtain⟨j0,k0,rfl,y1,z1⟩:=p0.all (Nat.lt_of_le_of_lt (Nat.zero_le _) (Fp _ (mem_of_getElem? h0)));have l2:ds[p]?=some (κ ds p):=getD_some default (Fp _ (mem_of_getElem? h0));obtain⟨l1,h1,k1,g1,t1,f1,e1⟩:=z1 p _ l2;refine Ao Aa AAk z0 [(0,1)] λz3 d2=>?_;refine Aw (g:=j0) (off:=k0) (cap:=j) (sz:=21) (k:=p) (len:=ds.length) (some 34) (Fp _ (mem_of_getElem? h0)) Tryz.underlying25 ?_;refine Bd 72 j0 (k0+p*21) _ (some 35) (Aj t1 y1 d2.B) ?_;refine AC AAj d2 [] λi2 n1=>?_;refine AW n1 (Ij (κ ds p) l1 h1 k1 g1 i2 (f1.below n1.B) (e1.below n1.B)) λy3 c3=>?_;refine AC tw c3 [] λx3 c2=>?_;refine AH (!(BM (κ ds p))) (λx0=>?_) (λx0=>?_)
  ·refine AC (Ab d8) c2 [] λh2 b3=>?_;refine AX [(2,Z (U w)),(4,Z (U w+1)),(5,J a0),(7,Z (U w7)),(8,φ d0 ((As ds p1).length) b),(25,φ d0 ((As ds p1).length) b),(26,J (((As ds p1).length:Int))),(27,J (IntKind.i64.wrap ((v:Int)+1)))] λl3=>?_;have a3:Wk w h2 [N (U w) [Y a,V (some ⟨j0,k0,none⟩) ds.length j] 27,N (U w+1) [V none 0 0,.map none] 122,N (U w7) [V o i.length m,.map (some (U w6))] 122] [(Ag.th LI (U w6) (h.map Lj)),(IA h),(Bc (θ d0) b (As ds p1)),(Bc o m i)] []:=b3.pk [0,1,2] [0,1,2,3];rw[Bs v (by omega)];refine g0 _ _ ⟨v+1,a0,i,h,o,m,l3,m0,rfl,by rw[c0,x0]<;>first | rfl | (simp only[cond_true,cond_false,length_map,map_append,map_cons,map_nil,id];done) | (simp only[cond_true,cond_false,length_map,map_append,map_cons,map_nil,id];rfl),by((try simp only[maxLen,length_map,length_append,length_cons,length_nil,length_singleton])<;>omega),by(first | ((try simp only[maxLen,length_append,length_cons,length_nil,length_singleton])<;>omega) | (refine Nat.le_trans (W9 _ _ _) ?_;((try simp only[maxLen,length_append,length_cons,length_nil,length_singleton])<;>omega))),a3⟩ ?_;show(As ds p1).length-AP (J ((v+1:Nat):Int))<(As ds p1).length-AP (J (v:Int));simp only[AP];omega
  refine AC tv c2 [(0,0)] λg2 r0=>?_;refine BL (mR a (some ⟨j0,k0,none⟩) ds j (θ d0) (As ds p1) b p g2 (p0.below r0.B) (by first | assumption | omega | (simp<;>omega)) (r0.H.rowsNat (r0.ix 2) (r0.at 2 rfl)) (by first | assumption | omega | (simp<;>omega)) (Fp _ (mem_of_getElem? h0)) Fp v1 hn) λen v3 hh=>?_;obtain⟨s,q,rfl,q2,Hn⟩:=hh;refine⟨_,rfl,?_⟩;have z2:=r0.join q2 Hn;refine AC UK z2 [] λb1 b2=>?_;refine AH (!(((Cu ds (As ds p1) p)).2==0)) (λw0=>?_) (λw0=>?_)
  ·have y2:=b2.addNil 3 1 (λe r=>r=F7 e);refine AC AE1 y2 [(1,0)] λu3 a2=>?_;have hS:(Bj a ds p1)=([],[],((Cu ds (As ds p1) p)).2):=by rw[c0,x0,w0]<;>rfl
   exact AN a2 (1,0) (.tuple #[D [V none 0 0,.map none],J (((Cu ds (As ds p1) p)).2)]) (.inr ⟨by rw[hS]<;>rfl,by rw[hS];simpa using w0,a2.B⟩)
  refine Bn BH UJ [N (U w) [Y a,V (some ⟨j0,k0,none⟩) ds.length j] 27,N (U w+1) [V none 0 0,.map none] 122,N (U w7) [V o i.length m,.map (some (U w6))] 122,N (U b1) [J ((p:Int))] 3] b2 [(2,0)] λt3 q0=>?_;refine CD q0.H (q0.ix 3) (q0.at 3 rfl) p [J ((p:Int))] rfl (U b1) (q0.ent 3 (by kernel_rfl)) (Cr UJ) (by kernel_rfl) (.tmp 50) (.tmp 52) 22 (by kernel_rfl) (by kernel_rfl) (by kernel_rfl) (by decide) (by kernel_rfl) (by kernel_rfl) rfl rfl (by((try simp only[maxLen,length_map,length_append,length_cons,length_nil,length_singleton])<;>omega)) λa1 v0 r3 Hn p2=>?_;have x2:=q0.put 3 (by simp) p2 Hn;refine Bn RZ tu [N (U w) [Y a,V (some ⟨j0,k0,none⟩) ds.length j] 27,N (U w+1) [V none 0 0,.map none] 122,N (U w7) [V a1 ((i++[p]).length) v0,.map (some (U w6))] 122,N (U b1) [J ((p:Int))] 3] x2 [(2,0),(2,1)] λq3 l0=>?_;refine TW LI l0.H (l0.ix 0) (l0.at 0 rfl) p (s,(((Cu ds (As ds p1) p)).1).length,q) (by show _<=_;have:=Fp _ (mem_of_getElem? h0);omega) (l0.H.rowSpot (l0.ix 4) (l0.at 4 rfl)) (Cr tu) (by kernel_rfl) (t:=120) (x:=.tmp 56) (y:=.tmp 57) (z:=.tmp 58) (by kernel_rfl) rfl (by kernel_rfl) (by kernel_rfl) (by kernel_rfl) (by((try simp only[maxLen,length_map,length_append,length_cons,length_nil,length_singleton])<;>omega)) λp3 Hn o2=>?_;have v2:=l0.put 0 (by simp) o2 Hn;have u2:=v2.take 1 4 mo h (((p,((Cu ds (As ds p1) p)).1,s,q)::h:List NT)) (p,((Cu ds (As ds p1) p)).1,s,q) rfl rfl (by decide) (by intro z;simp);refine AC (Ab d8) u2 [] λf2 t2=>?_;refine AX [(2,Z (U w)),(4,Z (U w+1)),(5,J a0),(7,Z (U w7)),(8,φ d0 ((As ds p1).length) b),(25,φ d0 ((As ds p1).length) b),(26,J (((As ds p1).length:Int))),(27,J (IntKind.i64.wrap ((v:Int)+1)))] λk3=>?_;have s2:Wk w f2 [N (U w) [Y a,V (some ⟨j0,k0,none⟩) ds.length j] 27,N (U w+1) [V none 0 0,.map none] 122,N (U w7) [V a1 ((i++[p]).length) v0,.map (some (U w6))] 122] [(Ag.th LI (U w6) (((p,((Cu ds (As ds p1) p)).1,s,q)::h:List NT).map Lj)),(IA ((p,((Cu ds (As ds p1) p)).1,s,q)::h)),(Bc (θ d0) b (As ds p1)),(Bc a1 v0 (i++[p]))] []:=t2.pk [0,1,2] [0,1,2,3];rw[Bs v (by omega)];refine g0 _ _ ⟨v+1,a0,(i++[p]),((p,((Cu ds (As ds p1) p)).1,s,q)::h),a1,v0,k3,m0,rfl,by rw[c0,x0,w0]<;>first | rfl | (simp only[cond_true,cond_false,length_map,map_append,map_cons,map_nil,id];done) | (simp only[cond_true,cond_false,length_map,map_append,map_cons,map_nil,id];rfl),by((try simp only[maxLen,length_map,length_append,length_cons,length_nil,length_singleton])<;>omega),by(first | ((try simp only[maxLen,length_append,length_cons,length_nil,length_singleton])<;>omega) | (refine Nat.le_trans (W9 _ _ _) ?_;((try simp only[maxLen,length_append,length_cons,length_nil,length_singleton])<;>omega))),s2⟩ ?_;show(As ds p1).length-AP (J ((v+1:Nat):Int))<(As ds p1).length-AP (J (v:Int));simp only[AP];omega
 have x1:v=(As ds p1).length:=by have:=of_decide_eq_false i1;omega
 rw[x1,drop_length,Po]at c0;refine Ar AE0 t0 [(2,0),(1,0)] λo3 m1=>?_;have hS:(Bj a ds p1)=(i,(h.map JP),0):=by rw[c0]<;>rfl
 exact AN m1 (1,0) (.tuple #[D [V o i.length m,.map (some (U w6))],J 0]) (.inl ⟨o,m,U w6,h,by rw[hS]<;>rfl,by rw[hS],m1.B,by rw[hS],by rw[hS];exact m1.own0 [3,0,1] rfl (by decide)⟩)
def GZ (i:Nat) (ml:List (Nat×Bool)):Bool:=!((Bf ml i).getD false)
noncomputable def Sd:Code:=Tryz.f94.body.getD .skip
def dw:=AB (Aq (Oc 154) 90 ([.code Sd])) ([.code Sd])
def ti:=AB (Aq FQ 90 (AD (dw))) (AD (dw))
def AEy:=Ψ ti
theorem Yk (i b g:Nat) (ml:List (Nat×Bool)) (w:World) (d:b<(U w)) (a:w.rangeAt b 0 [.map (some g)]) (f:Ag.at IK g ml w) (hi:i<=4294967296):Calls Tryz.prog 94 ([J ((i:Int)),Z b]:List Value).toArray w λe w'=>e=.returned (I (GZ i ml))/\Below (U w) w w':=by refine AS (fn:=Tryz.f94) (c:=Sd) (n:=8) ?_;have l:=d;have h:=a;have p:=Wk.start w;refine Ao (Oc 154) dw p [] λs k=>?_;refine EF 154 b 0 (.map (some g)) (some 4) (by simpa using Aj a d k.B 0 _ rfl) ?_;refine Ao FQ ti k [] λr j=>?_;refine EW (Hm IK (t:=154) (x:=.tmp 4) (y:=.tmp 5) (by kernel_rfl) rfl (b:=g) (m:=ml) (by kernel_rfl) i (by kernel_rfl) hi (Ag.below f j.B)) ?_;refine AC AEy j [] λq o=>?_;exact AQ o (0,0) _ (by unfold GZ;rfl)
def CM (F:Nat->Bool):List (Nat)->Nat->Int->Int
 | [],i0,a0_0=>-1
 | e0::tl,i0,a0_0=>cond (F e0) ((i0:Int)) (CM F tl (i0+1) a0_0)
theorem Pv {F:Nat->Bool} {b:Nat} {a:Int}:CM F [] b a=(-1):=by rw[CM]
theorem Ox {F:Nat->Bool} {b:Int} {es:List (Nat)} (a c:Nat) (hi:es[a]?=some c):CM F (es.drop a) a b=(cond (F c) ((a:Int)) (CM F (es.drop (a+1)) (a+1) b)):=by have hl:a<es.length:=(List.getElem?_eq_some_iff.1 hi).1;have he:es[a]=c:=(List.getElem?_eq_some_iff.1 hi).2;rw[<-getElem_cons_drop hl,CM]<;>(try rw[he])
def CX (F:Nat->Bool) (ds:List (Nat)):Int:=CM F ds 0 0
noncomputable def Zm:Code:=Tryz.f91.body.getD .skip
def bK:=ν ([.code Zm])
def Tz:=ν (Au bK)
def rH:=AB (Aq Aa 90 (AE Tz)) (AE Tz)
def rG:=ν (AD (AD rH))
def rF:=Ψ rG
def ADF:=Θ rF
def ADE:=Ξ Tz
theorem N7 (F:Nat->Bool) (j:Option Addr) (ds:List (Nat)) (f:Nat) (g:FuncId) (cap:List Value) (w:World) (t:rowsNat w j ds) (a0:ds.length<=4294967296) (hg:Dr Tryz.prog g=true) (hF:∀u,Below (U w) w u->∀(e:Nat),e∈ds->Calls Tryz.prog g (J (e:Int)::cap).toArray u λen w'=>en=.returned (I (F e))/\Below (U u) u w'):Calls Tryz.prog 91 ([V j ds.length f,.func (.func g) #[] ⟨cap⟩]:List Value).toArray w λe w'=>e=.returned (J (CX F ds))/\Below (U w) w w':=by
 refine AS (fn:=Tryz.f91) (c:=Zm) (n:=19) ?_;have K1:=Wk.start w;refine AC bK K1 [] λw1 K2=>?_;have K3:Wk w w1 [] [] []:=K2.pk [] [];have b:(CX F ds)=CM F ds 0 0:=by unfold CX;rfl
 refine AX [(0,V j ds.length f),(1,.func (.func g) #[] ⟨cap⟩),(4,J 0),(7,J ((ds.length:Int))),(8,J (((0:Nat):Int)))] λE2=>?_;refine Bp (by kernel_rfl) (λE q=>∃(a:Nat) (d:Int) (E0:Nat->Value),a<=ds.length/\E=BN E0 [(0,V j ds.length f),(1,.func (.func g) #[] ⟨cap⟩),(4,J d),(7,J ((ds.length:Int))),(8,J ((a:Int)))]/\(CX F ds)=CM F (List.drop a ds) a d/\Wk w q [] [] []) (λE _=>ds.length-AP (E 8)) ⟨0,0,E2,Nat.zero_le _,rfl,b,K3⟩ ?_;clear b;rintro E q ⟨a,d,E0,l0,rfl,b,K4⟩ i;refine AC Tz K4 [] λw4 K5=>?_;refine AH (decide ((a:Int)<(ds.length:Int))) (λc5=>?_) (λc5=>?_)
 ·have h:a<ds.length:=by have:=of_decide_eq_true c5;omega
  obtain⟨y,l⟩:∃e,ds[a]?=some e:=⟨_,getElem?_eq_getElem h⟩;rw[Ox a y l]at b;obtain⟨m,o,rfl,v,x⟩:=t.all (by omega);have r:=x a _ l;refine Ao Aa rH K5 [] λw6 K6=>?_;refine Aw (g:=m) (off:=o) (cap:=f) (sz:=1) (k:=a) (len:=ds.length) (some 14) h Tryz.underlying22 ?_;refine EF 3 m (o+a*1) (J ((y:Int))) (some 15) (by simpa using Aj r v K6.B 0 _ rfl) ?_;refine AC rG K6 [] λw7 K7=>?_;refine OK g (J ((y:Int))::cap) (hg:=hg) (hF w7 K7.B _ (mem_of_getElem? l)) λen w8 hh=>?_;obtain⟨rfl,b8⟩:=hh;refine⟨_,rfl,?_⟩;have K8:=K7.below b8;refine AC rF K8 [] λw9 K9=>?_;refine AH (F y) (λp=>?_) (λp=>?_)
  ·refine AC ADF K9 [] λk0 g0=>?_;exact AQ g0 (0,0) _ (by rw[b,p]<;>rfl)
  refine AC (Ab bK) K9 [] λz d0=>?_;refine AX [(0,V (some ⟨m,o,none⟩) ds.length f),(1,.func (.func g) #[] ⟨cap⟩),(4,J d),(7,J ((ds.length:Int))),(8,J (IntKind.i64.wrap ((a:Int)+1)))] λh0=>?_;have c0:Wk w z [] [] []:=d0.pk [] [];rw[Bs a (by omega)];refine i _ _ ⟨a+1,d,h0,h,rfl,by rw[b,p]<;>rfl,c0⟩ ?_;show ds.length-AP (J ((a+1:Nat):Int))<ds.length-AP (J (a:Int));simp only[AP];omega
 have s:a=ds.length:=by have:=of_decide_eq_false c5;omega
 rw[s,drop_length,Pv]at b;refine AC ADE K5 [] λj0 b0=>?_;exact AQ b0 (0,0) _ (by rw[b]<;>rfl)
def EV (F:Nat->Bool) (ds:List (Nat)):Bool:=decide (0<=CX F ds)
noncomputable def Xz:Code:=Tryz.f93.body.getD .skip
def iY:=ν ([.code Xz])
def yP:=Ψ iY
theorem Rt (F:Nat->Bool) (a:Option Addr) (ds:List (Nat)) (d:Nat) (g:FuncId) (cap:List Value) (w:World) (f:rowsNat w a ds) (b:ds.length<=4294967296) (hg:Dr Tryz.prog g=true) (k:∀u,Below (U w) w u->∀(e:Nat),e∈ds->Calls Tryz.prog g (J (e:Int)::cap).toArray u λl w'=>l=.returned (I (F e))/\Below (U u) u w'):Calls Tryz.prog 93 ([V a ds.length d,.func (.func g) #[] ⟨cap⟩]:List Value).toArray w λe w'=>e=.returned (I (EV F ds))/\Below (U w) w w':=by refine AS (fn:=Tryz.f93) (c:=Xz) (n:=9) ?_;have q:=Wk.start w;refine AC iY q [] λi h=>?_;refine AW h (args:=[V a ds.length d,.func (.func g) #[] ⟨cap⟩]) (N7 F _ ds _ g cap i (f.below h.B) b hg (λj m=>k j (h.B.trans (m.mono h.B.size)))) λs p=>?_;refine AC yP p [] λr o=>?_;exact AQ o (0,0) _ (by unfold EV;rfl)
attribute [local irreducible] EH DW
section
variable {α β:Type} [DecidableEq α] (S:Ag α β) {o:Oper} {ρ:Operand->Value} {w:World}
def Ag.optAt (A:Option Nat) (m:List (α×β)) (w:World):Prop:=match A with
 | none=>m=[]
 | some b=>S.at b m w
theorem Ag.optAt.below {S:Ag α β} {A:Option Nat} {m:List (α×β)} {w w':World} (h:S.optAt A m w) (B:Below (U w) w w'):S.optAt A m w':=by
 cases A with
 | none=>exact h
 | some b=>exact Ag.below (S:=S) h B
omit [DecidableEq α] in
end
end
end Go.Proofs.YtkpemkkbjfbmaaaGreat
namespace Go.Proofs.YtkpemkkbjfbmaaaGreat
open List
noncomputable section
open Go.RowKit
set_option maxRecDepth 100000
set_option maxHeartbeats 1000000
def DQ (ml:List (Nat×Bool)) (ns:List (Nat×List Nat)) (i:Nat):Bool:=cond (!((Bf ml i).getD false)) (!(EV (λj=>GZ j ml) ((Bf ns i).getD []))) false
noncomputable def Ok:Code:=Tryz.f92.body.getD .skip
noncomputable def tj:=Ac 1 ([.code Ok])
theorem Yl (i b h:Nat) (ml:List (Nat×Bool)) (k:Nat) (nA:Option Addr) (r nc o:Nat) (xs:List NT) (w:World) (a:b<(U w)) (d:w.rangeAt b 0 [.map (some h)]) (hm:Ag.at IK h ml w) (f:k<(U w)) (g:w.rangeAt k 0 [V nA r nc,.map (some o)])
  (hn:Ag.at LI o (xs.map Lj) w) (hf:(IA xs).P w) (hi:i<=4294967296) (hk:∀j∈(Bf (xs.map JP) i).getD [],j<=4294967296) (hl:((Bf (xs.map JP) i).getD []).length<=4294967296) :
  Calls Tryz.prog 92 ([J (i:Int),Z b,Z k]:List Value).toArray w λe w'=>e=.returned (I (DQ ml (xs.map JP) i))/\Below (U w) w w':=by
 refine Is (args:=[J (i:Int),Z b,Z k]) (fn:=Tryz.f92) (c:=Ok) (n:=18) ?_;obtain⟨A,c,hv,hr⟩:=xq hf i;generalize hls:(Bf (xs.map JP) i).getD []=l at hv hr hk hl;refine Cp (Kc 1 90 ([.code Ok])) ([.code Ok]) (U w) [] [] tj [(0,J (i:Int)),(1,Z b),(2,Z k)] (U w) [] (CQ w) λw1 E1 a0 s=>?_;have B:Below (U w) w w1:=Ch s;have G:∀e∈([⟨b,0,[.map (some h)],154,false⟩,⟨k,0,[V nA r nc,.map (some o)],122,false⟩]:List Ax),e.good w1:=λe he=>by
  simp only[mem_cons,not_mem_nil,or_false]at he;rcases he with rfl | rfl
  ·exact⟨Nat.lt_of_lt_of_le a B.size,Aj d a B⟩
  exact⟨Nat.lt_of_lt_of_le f B.size,Aj g f B⟩
 refine Iu ((Da tj).getD #[]) ⟨[⟨b,0,[.map (some h)],154,false⟩,⟨k,0,[V nA r nc,.map (some o)],122,false⟩],[(0,0,0),(6,1,1)],[⟨2,[(5,.map (some h)),(6,J (i:Int))],I ((Bf ml i).getD false),true⟩,⟨8,[(11,.map (some o)),(12,J (i:Int))],V A l.length c,(!((Bf ml i).getD false))&&true⟩,⟨10,[(13,V A l.length c),(14,.func (.func 94) #[] ⟨[Z b]⟩)],I (EV (λj=>GZ j ml) l),(!((Bf ml i).getD false))&&true⟩]⟩
  [(4,I (cond (!((Bf ml i).getD false)) (!(EV (λj=>GZ j ml) l)) false))] (by kernel_rfl) (by kernel_rfl) (by kernel_rfl) G (λsp p=>?_) (λX=>by kernel_rfl) (by kernel_rfl) λw2 E2 b2=>?_
 ·simp only[mem_cons,not_mem_nil,or_false]at p;rcases p with rfl | rfl | rfl
  ·exact BR λ_ E u v=>Hm IK (t:=154) (x:=.tmp 5) (y:=.tmp 6) (by kernel_rfl) rfl (b:=h) (m:=ml) (by kernel_rfl) i (by kernel_rfl) hi (Ag.below hm (B.trans (v.mono B.size)))
  ·exact BR λ_ E u v=>(Hm LI (t:=120) (x:=.tmp 11) (y:=.tmp 12) (by kernel_rfl) rfl (b:=o) (m:=xs.map Lj) (by kernel_rfl) i (by kernel_rfl) hi (Ag.below hn (B.trans (v.mono B.size)))).trans (by show Result.ok (Next.value (LI.ev ((Bf (xs.map Lj) i).getD (none,0,0)))) u=_;rw[hv];rfl)
  exact AU 93 [.tmp 13,.tmp 14] _ (λ_=>by kernel_rfl) λhc u hu=>AR hu (Rt (λj=>GZ j ml) A l c 94 [Z b] u (Cn.below hr (B.trans (hu.mono B.size))) hl (by kernel_rfl) (λu2 q j hj=>by have z:Below (U w) w u2:=(B.trans (hu.mono B.size)).trans (q.mono (B.trans (hu.mono B.size)).size);exact Yk j b h ml u2 (Nat.lt_of_lt_of_le a z.size) (Aj d a z) (Ag.below hm z) (hk j hj)))
 replace B:=B.trans (b2.mono B.size);exact FU (fn:=Tryz.f92) 60 (I (cond (!((Bf ml i).getD false)) (!(EV (λj=>GZ j ml) l)) false)) λwz Bz=>⟨by unfold DQ;rw[hls],B.trans (Bz.mono B.size)⟩
theorem Lh {F:Nat->Bool}:∀(es:List Nat) (i:Nat) (a:Int),CM F es i a<(i+es.length:Nat)/\(CM F es i a=-1\/0<=CM F es i a)
 | [],i,a=>by rw[CM];exact⟨by omega,.inl rfl⟩
 | e::es,i,a=>by
  rw[CM,length_cons]
  cases F e
  ·show CM F es (i+1) a<_/\_;have:=Lh (F:=F) es (i+1) a;exact⟨by have:=this.1;omega,this.2⟩
  exact⟨by show(i:Int)<_;omega,.inr (by show(0:Int)<=i;omega)⟩
theorem LM {F:Nat->Bool} {ds:List Nat} (h:decide (CX F ds<0)=false):CX F ds=((CX F ds).toNat:Int)/\(CX F ds).toNat<ds.length:=by have b:=of_decide_eq_false h;have a:CX F ds<(0+ds.length:Nat):=(Lh (F:=F) ds 0 0).1;omega
theorem iH {α β:Type} [DecidableEq α] (S:Ag α β) {ops:Array Oper} {Q:Exit->Act->World->Prop} {md:Region.Mode} {n:Nat} {E:Nat->Value} {b:Nat} {L:List Th} {w:World} {c:Array Bool} {fuel j:Nat} (H:AY b w L) (i:Nat) {g:Nat} {m:List (α×β)} (hi:L[i]?=some (S.th g m)) (a:α) (v:β) (ha:S.ka a) (hv:S.ea v)
  (o:Oper) (hr:Region.ready md ops c=[j]) (h:ops[j]?=some o) (k:o.guard=none) {t:TypeId} {x y z:Operand} (ho:o.op=.mapUpdate t x y z) (ht:t=S.t) (hx:BK n E x=.map (some g)) (l:BK n E y=S.kv a) (hz:BK n E z=S.ev v) (hm:m.length<100000000000)
  (p:∀w',AY b w' (L.set i (S.th g ((a,v)::m)))->Below b w w'->wpAny Tryz.prog md ops Q fuel (c.setIfInBounds j true) (Fr n (A8 E o.dst undef)) w'):wpAny Tryz.prog md ops Q (fuel+1) c (Fr n E) w:=by
 subst ht;obtain⟨w',r,h2,d⟩:=S.store (H.all i _ hi) a v ha hv (by unfold maxLen;omega);have hl:=(H.lo i _ hi g rfl);have f:(execOp (BK n E) o).run Tryz.prog w=.ok .skip w':=by unfold execOp;simp only[ho,hx,l,hz];rw[Sem.run_bind,r];rfl
 refine On o hr h k f (p w' (H.set i hi d.size h2 (λq e=>?_) (λq e hf=>d.block q e λhe=>hf (Option.some.inj he))) ⟨d.os,d.tape,d.output,d.size,λq e=>d.block q (Nat.lt_of_lt_of_le e H.base) λhe=>?_⟩)
 ·obtain rfl:q=g:=e;exact⟨World.ownsMap.lt h2.1,.inl rfl⟩
 have:=Option.some.inj he;omega
def Hi (nodes:List Nat) (ns:List (Nat×List Nat)):Nat->List Nat->List (Nat×Bool)->List Nat×Int
 | 0,r,_=>(r,0)
 | k+1,r,ml=>cond (decide ((r.length:Int)<(nodes.length:Int))) (cond (decide (CX (DQ ml ns) nodes<0)) ([],11) (Hi nodes ns k (r++[nodes.getD (CX (DQ ml ns) nodes).toNat default]) ((nodes.getD (CX (DQ ml ns) nodes).toNat default,true)::ml))) (r,0)
def GI (nodes:List Nat) (ns:List (Nat×List Nat)):List Nat×Int:=Hi nodes ns (nodes.length+1) [] []
def gU:Value->Nat
 | .slice _ n _=>n
 | _=>0
noncomputable def MO:Code:=Tryz.f54.body.getD .skip
def UI:=AB (Aq Ig 90 ([.code MO])) ([.code MO])
def UH:=Ψ UI
def dv:=ν (Au UH)
def dt:=Θ dv
def UG:=Ψ dt
def OT:=Ac 7 (AG UG)
def SJ:Array Oper:=(Da OT).getD #[]
def yB:Wr:=[(20,0),(22,2),(23,3),(24,4),(25,5)]
def Qj:=AB (Aq Aa 90 (AO OT)) (AO OT)
def dq:=AB (Aq BH 90 (AD (AD Qj))) (AD (AD Qj))
theorem mL (nA:Option Addr) (nodes:List Nat) (nc f:Nat) (xs:List NT) (w:World) (q:rowsNat w nA nodes) (hl:nodes.length<=4294967296) (hn:Ag.at LI f (xs.map Lj) w) (hf:(IA xs).P w) (g0:∀j∈nodes,j<=4294967296)
  (s:∀i,(∀j∈(Bf (xs.map JP) i).getD [],j<=4294967296)/\((Bf (xs.map JP) i).getD []).length<=4294967296) :
  Calls Tryz.prog 54 ([D [V nA nodes.length nc,.map (some f)]]:List Value).toArray w λe w'=>∃(b1:Option Addr) (a1:Nat),e=.returned (.tuple #[V b1 (GI nodes (xs.map JP)).1.length a1,J (GI nodes (xs.map JP)).2])/\Below (U w) w w'/\AY (U w) w' [Bc b1 a1 (GI nodes (xs.map JP)).1]:=by
 refine Is (args:=[D [V nA nodes.length nc,.map (some f)]]) (fn:=Tryz.f54) (c:=MO) (n:=35) ?_;have B:Below (U w) w w:=Below.refl _ _;have H:AY (U w) w (List.map Th.ent []++[]):=AY.nil (Nat.le_refl _);generalize hns:xs.map JP=ns at s;refine Cp (Aq Ig 90 ([.code MO])) ([.code MO]) (U w) [] [] UI [(1,Z (U w)),(4,V none 0 0)] (U w+1) [N (U w) [V nA nodes.length nc,.map (some f)] 122] (H.lies (M:=[])) λa E1 q1 k1=>?_;replace B:=B.trans (H.keptB (M:=[]) k1);replace H:AY (U w) a (List.map Th.ent [N (U w) [V nA nodes.length nc,.map (some f)] 122]++[]):=H.run (M:=[]) (M':=[N (U w) [V nA nodes.length nc,.map (some f)] 122]) q1 k1 rfl;refine Je IK H (Cr UI) (by kernel_rfl) (t:=154) (by kernel_rfl) λd Z2 Hn b2=>?_;replace H:AY (U w) d (List.map Th.ent [N (U w) [V nA nodes.length nc,.map (some f)] 122]++[Ag.th IK (U a) []]):=Hn;clear Hn;replace B:=B.trans b2;refine Cp 60 (AD UI) (U d) _ [(1,0)] UH [(1,Z (U w)),(4,V none 0 0),(5,Z (U d))] (U d+1) [N (U w) [V nA nodes.length nc,.map (some f)] 122,N (U d) [.map (some (U a))] 154] (H.lies (M:=[N (U w) [V nA nodes.length nc,.map (some f)] 122])) λw3 E3 p1 i1=>?_;replace B:=B.trans (H.keptB (M:=[N (U w) [V nA nodes.length nc,.map (some f)] 122]) i1);replace H:AY (U w) w3 (List.map Th.ent [N (U w) [V nA nodes.length nc,.map (some f)] 122,N (U d) [.map (some (U a))] 154]++[Ag.th IK (U a) []]):=H.run (M:=[N (U w) [V nA nodes.length nc,.map (some f)] 122]) (M':=[N (U w) [V nA nodes.length nc,.map (some f)] 122,N (U d) [.map (some (U a))] 154]) p1 i1 rfl;replace H:AY (U w) w3 (List.map Th.ent [N (U w) [V nA nodes.length nc,.map (some f)] 122,N (U d) [.map (some (U a))] 154]++[Ag.th IK (U a) [],Bc none 0 []]):=H.addNil 3 1 (λe r=>r=F7 e);refine Bp (by kernel_rfl) (λE wx=>∃(r:List Nat) (ml:List (Nat×Bool)) (A:Option Addr) (c:Nat) (E0:Nat->Value),E=BN E0 [(1,Z (U w)),(4,V A r.length c),(5,Z (U d))]/\GI nodes ns=Hi nodes ns (nodes.length+1-r.length) r ml/\r.length<=nodes.length/\ml.length=r.length/\Below (U w) w wx/\AY (U w) wx (List.map Th.ent [N (U w) [V nA nodes.length nc,.map (some f)] 122,N (U d) [.map (some (U a))] 154]++[Ag.th IK (U a) ml,Bc A c r])) (λE _=>nodes.length-gU (E 4)) ⟨[],[],none,0,E3,rfl,rfl,Nat.zero_le _,rfl,B,H⟩ ?_;rintro E wx ⟨r,ml,A,c,E0,rfl,hv,x1,y1,B,H⟩ e0;refine Cp 60 (Au UH) (U wx) _ [(0,0)] dv [(1,Z (U w)),(4,V A r.length c),(5,Z (U d)),(13,I (decide ((r.length:Int)<(nodes.length:Int))))] (U wx) [N (U w) [V nA nodes.length nc,.map (some f)] 122,N (U d) [.map (some (U a))] 154] (H.lies (M:=[N (U w) [V nA nodes.length nc,.map (some f)] 122,N (U d) [.map (some (U a))] 154])) λw4 f2 h1 k0=>?_;replace B:=B.trans (H.keptB (M:=[N (U w) [V nA nodes.length nc,.map (some f)] 122,N (U d) [.map (some (U a))] 154]) k0);replace H:AY (U w) w4 (List.map Th.ent [N (U w) [V nA nodes.length nc,.map (some f)] 122,N (U d) [.map (some (U a))] 154]++[Ag.th IK (U a) ml,Bc A c r]):=H.run (M:=[N (U w) [V nA nodes.length nc,.map (some f)] 122,N (U d) [.map (some (U a))] 154]) (M':=[N (U w) [V nA nodes.length nc,.map (some f)] 122,N (U d) [.map (some (U a))] 154]) h1 k0 rfl;refine D9 (decide ((r.length:Int)<(nodes.length:Int))) (λc5=>?_) (λc5=>?_)
 ·have z1:r.length<nodes.length:=by have:=of_decide_eq_true c5;omega
  rw[show nodes.length+1-r.length=(nodes.length-r.length)+1 by omega,Hi,c5]at hv;change GI nodes ns=cond (decide (CX (DQ ml ns) nodes<0)) _ _ at hv;refine Cp 60 (AE dv) (U w4) _ [(0,0)] dt [(1,Z (U w)),(4,V A r.length c),(5,Z (U d)),(15,V nA nodes.length nc),(16,.func (.func 92) #[] ⟨[Z (U d),Z (U w)]⟩)] (U w4) [N (U w) [V nA nodes.length nc,.map (some f)] 122,N (U d) [.map (some (U a))] 154] (H.lies (M:=[N (U w) [V nA nodes.length nc,.map (some f)] 122,N (U d) [.map (some (U a))] 154])) λw5 e2 g1 j0=>?_;replace B:=B.trans (H.keptB (M:=[N (U w) [V nA nodes.length nc,.map (some f)] 122,N (U d) [.map (some (U a))] 154]) j0);replace H:AY (U w) w5 (List.map Th.ent [N (U w) [V nA nodes.length nc,.map (some f)] 122,N (U d) [.map (some (U a))] 154]++[Ag.th IK (U a) ml,Bc A c r]):=H.run (M:=[N (U w) [V nA nodes.length nc,.map (some f)] 122,N (U d) [.map (some (U a))] 154]) (M':=[N (U w) [V nA nodes.length nc,.map (some f)] 122,N (U d) [.map (some (U a))] 154]) g1 j0 rfl;have G:=H.goods (M:=[N (U w) [V nA nodes.length nc,.map (some f)] 122,N (U d) [.map (some (U a))] 154]);have t0:=G _ (mem_of_getElem? (i:=0) rfl);have r0:=G _ (mem_of_getElem? (i:=1) rfl);have o1:Ag.at IK (U a) ml w5:=H.all 2 _ rfl;refine MP 91 [.tmp 15,.tmp 16] (some 17) [V nA nodes.length nc,.func (.func 92) #[] ⟨[Z (U d),Z (U w)]⟩] (by kernel_rfl) (by kernel_rfl) (by kernel_rfl) ((N7 (DQ ml ns) nA nodes nc 92 [Z (U d),Z (U w)] w5 (Cn.below q B) hl (by kernel_rfl) (λu b e he=>by have Bu:=B.trans (b.mono B.size);rw[<-hns];exact Yl e (U d) (U a) ml (U w) nA nodes.length nc f xs u (Nat.lt_of_lt_of_le r0.1 b.size) (Aj (Ka r0) r0.1 b) (Ag.below o1 b) (Nat.lt_of_lt_of_le t0.1 b.size) (Aj (Ka t0) t0.1 b) (Ag.below hn Bu) ((IA xs).fr w u hf Bu.size (λk _ hk=>Bu.block k hk)) (g0 e he) (by rw[hns];exact(s e).1) (by rw[hns];exact(s e).2))).mono λen w6 hh=>?_)
  obtain⟨rfl,b6⟩:=hh;refine⟨_,rfl,?_⟩;replace B:=B.trans (b6.mono B.size);replace H:AY (U w) w6 (List.map Th.ent [N (U w) [V nA nodes.length nc,.map (some f)] 122,N (U d) [.map (some (U a))] 154]++[Ag.th IK (U a) ml,Bc A c r]):=H.below b6;refine Cp 60 (AD dt) (U w6) _ [] UG [(1,Z (U w)),(4,V A r.length c),(5,Z (U d)),(6,J (CX (DQ ml ns) nodes)),(19,I (decide (CX (DQ ml ns) nodes<0)))] (U w6) [N (U w) [V nA nodes.length nc,.map (some f)] 122,N (U d) [.map (some (U a))] 154] (H.lies (M:=[N (U w) [V nA nodes.length nc,.map (some f)] 122,N (U d) [.map (some (U a))] 154])) λw7 d2 f1 i0=>?_;replace B:=B.trans (H.keptB (M:=[N (U w) [V nA nodes.length nc,.map (some f)] 122,N (U d) [.map (some (U a))] 154]) i0);replace H:AY (U w) w7 (List.map Th.ent [N (U w) [V nA nodes.length nc,.map (some f)] 122,N (U d) [.map (some (U a))] 154]++[Ag.th IK (U a) ml,Bc A c r]):=H.run (M:=[N (U w) [V nA nodes.length nc,.map (some f)] 122,N (U d) [.map (some (U a))] 154]) (M':=[N (U w) [V nA nodes.length nc,.map (some f)] 122,N (U d) [.map (some (U a))] 154]) f1 i0 rfl;refine D9 (decide (CX (DQ ml ns) nodes<0)) (λc8=>?_) (λc8=>?_)
  ·rw[c8]at hv;change GI nodes ns=([],11)at hv;replace H:=H.addNil 3 1 (λe r=>r=F7 e);refine FU (fn:=Tryz.f54) 60 (.tuple #[V none 0 0,J 11]) λwz Bz=>⟨none,0,by rw[hv]<;>rfl,B.trans (Bz.mono B.size),?_⟩;rw[hv];exact(H.below Bz).pick [4] rfl (by decide)
  rw[c8]at hv;have a0:=LM c8;change GI nodes ns=Hi nodes ns (nodes.length-r.length) (r++[nodes.getD (CX (DQ ml ns) nodes).toNat default]) ((nodes.getD (CX (DQ ml ns) nodes).toNat default,true)::ml)at hv;rw[a0.1];have hd:=getD_some default a0.2;have p0:=DR (l:=nodes) a0.2;generalize (CX (DQ ml ns) nodes).toNat=ix at hv a0 hd p0 ⊢;generalize nodes.getD ix default=x at hv hd p0;obtain⟨m,o,rfl,q0,d1⟩:=q.all (Nat.lt_of_le_of_lt (Nat.zero_le _) a0.2);refine Cp (Kc 7 90 (AG UG)) (AG UG) (U w7) _ [] OT [(1,Z (U w)),(4,V A r.length c),(5,Z (U d)),(6,J (ix:Int))] (U w7) [N (U w) [V (some ⟨m,o,none⟩) nodes.length nc,.map (some f)] 122,N (U d) [.map (some (U a))] 154] (H.lies (M:=[N (U w) [V (some ⟨m,o,none⟩) nodes.length nc,.map (some f)] 122,N (U d) [.map (some (U a))] 154])) λw8 a2 e1 h0=>?_;replace B:=B.trans (H.keptB (M:=[N (U w) [V (some ⟨m,o,none⟩) nodes.length nc,.map (some f)] 122,N (U d) [.map (some (U a))] 154]) h0);replace H:AY (U w) w8 (List.map Th.ent [N (U w) [V (some ⟨m,o,none⟩) nodes.length nc,.map (some f)] 122,N (U d) [.map (some (U a))] 154]++[Ag.th IK (U a) ml,Bc A c r]):=H.run (M:=[N (U w) [V (some ⟨m,o,none⟩) nodes.length nc,.map (some f)] 122,N (U d) [.map (some (U a))] 154]) (M':=[N (U w) [V (some ⟨m,o,none⟩) nodes.length nc,.map (some f)] 122,N (U d) [.map (some (U a))] 154]) e1 h0 rfl;have G:=H.goods (M:=[N (U w) [V (some ⟨m,o,none⟩) nodes.length nc,.map (some f)] 122,N (U d) [.map (some (U a))] 154]);refine DK SJ 7 ?_;refine C5 (i:=1) (v:=Z (U w)) (SJ.getD 1 default) (λ_ _ _ h=>nomatch h.1) ?_;refine Cm (md:=.any) (fuel:=1) (L:=[Av 0 [] (.map (some (U a))),Av 2 [] (V (some ⟨m,o,none⟩) nodes.length nc),Av 3 [] (J (ix:Int)),Av 4 [2,3] (.pointer (some ⟨m,o+ix*1,none⟩)),Av 5 [2,3,4] (J (x:Int))]) (W:=yB) (C:=λu=>Below (U w8) w8 u) (Ext:=Cy) (Below.refl _ _).drew Cy.refl (λ_ _ _=>Cy.trans) ⟨?_,?_,?_,?_,?_,trivial⟩ rfl ?_
  ·refine⟨λ_ _ _ _ _ h=>h,λvals u hu hb=>?_⟩;exact AL.knownE [] trivial (AL.reads ⟨0,[N (U w) [V (some ⟨m,o,none⟩) nodes.length nc,.map (some f)] 122,N (U d) [.map (some (U a))] 154],(1,0),[]⟩ (BG G hu) (.map (some (U a))) ⟨hu,.refl _,rfl⟩)
  ·refine⟨λ_ _ _ _ _ h=>h,λvals u hu hb=>?_⟩;exact AL.knownE [] trivial (AL.reads ⟨0,[N (U w) [V (some ⟨m,o,none⟩) nodes.length nc,.map (some f)] 122,N (U d) [.map (some (U a))] 154],(0,0),[]⟩ (BG G hu) (V (some ⟨m,o,none⟩) nodes.length nc) ⟨hu,.refl _,rfl⟩)
  ·refine⟨λ_ _ _ _ _ h=>h,λvals u hu hb=>?_⟩;exact AL.knownE [] trivial (AL.reads ⟨0,[],(0,0),[]⟩ (λe he=>by cases he) (J (ix:Int)) ⟨hu,.refl _,rfl⟩)
  ·refine⟨λ_ _ _ _ _ h=>h,λvals u hu hb=>?_⟩;obtain⟨h2,h3,_⟩:=hb;exact AL.knownE [(22,2,V (some ⟨m,o,none⟩) nodes.length nc),(23,3,J (ix:Int))] ⟨(List.cons.inj h2).1,(List.cons.inj h3).1,trivial⟩ (AL.value (BJ (sz:=1) (cap:=nc) 22 (.tmp 22) (.tmp 23) (hx:=rfl) (hi:=rfl) a0.2 Tryz.underlying22) ⟨hu,.refl _,rfl⟩)
  ·refine⟨λ_ _ _ _ _ h=>h,λvals u hu hb=>?_⟩;obtain⟨h2,h3,h4,_⟩:=hb;have Bu:=B.trans (hu.mono B.size);exact AL.knownE [(24,4,.pointer (some ⟨m,o+ix*1,none⟩))] ⟨(List.cons.inj h4).1,trivial⟩ (AL.reads ⟨0,[⟨m,o+ix*1,[J (x:Int)],3,false⟩],(0,0),[]⟩ (λe he=>by rw[mem_singleton.1 he];exact⟨Nat.lt_of_lt_of_le q0 Bu.size,Aj (d1 ix x hd) q0 Bu⟩) (J (x:Int)) ⟨hu,.refl _,rfl⟩)
  intro vals w9 b9 _ c1;replace b9:Below (U w8) w8 w9:=b9;obtain⟨x0,x2,x3,x4,x5,_⟩:=c1;replace B:=B.trans (b9.mono B.size);replace H:AY (U w) w9 (List.map Th.ent [N (U w) [V (some ⟨m,o,none⟩) nodes.length nc,.map (some f)] 122,N (U d) [.map (some (U a))] 154]++[Ag.th IK (U a) ml,Bc A c r]):=H.below b9;refine Bk [(1,Z (U w)),(4,V A r.length c),(5,Z (U d)),(6,J (ix:Int)),(20,vals 0),(25,vals 5)] λE9=>?_;rw[show vals 0=.map (some (U a))from(List.cons.inj x0).1,show vals 5=J (x:Int)from(List.cons.inj x5).1];refine iH IK H 2 rfl x true (g0 x p0) trivial (j:=6) (SJ.getD 6 default) (by kernel_rfl) (by kernel_rfl) (by kernel_rfl) (t:=154) (x:=.tmp 20) (y:=.tmp 25) (z:=.const (I true)) (by kernel_rfl) rfl rfl rfl rfl (by omega) λm0 Hn s1=>?_;replace H:AY (U w) m0 (List.map Th.ent [N (U w) [V (some ⟨m,o,none⟩) nodes.length nc,.map (some f)] 122,N (U d) [.map (some (U a))] 154]++[Ag.th IK (U a) ((x,true)::ml),Bc A c r]):=Hn;clear Hn;replace B:=B.trans s1;refine Dm ⟨rfl,At.mid ?_⟩;refine Cp (Aq Aa 90 (AO OT)) (AO OT) (U m0) _ [(0,0)] Qj [(1,Z (U w)),(4,V A r.length c),(5,Z (U d)),(26,V A r.length c),(28,V (some ⟨m,o,none⟩) nodes.length nc),(29,J (ix:Int))] (U m0) [N (U w) [V (some ⟨m,o,none⟩) nodes.length nc,.map (some f)] 122,N (U d) [.map (some (U a))] 154] (H.lies (M:=[N (U w) [V (some ⟨m,o,none⟩) nodes.length nc,.map (some f)] 122,N (U d) [.map (some (U a))] 154])) λp v1 z0 d0=>?_;replace B:=B.trans (H.keptB (M:=[N (U w) [V (some ⟨m,o,none⟩) nodes.length nc,.map (some f)] 122,N (U d) [.map (some (U a))] 154]) d0);replace H:AY (U w) p (List.map Th.ent [N (U w) [V (some ⟨m,o,none⟩) nodes.length nc,.map (some f)] 122,N (U d) [.map (some (U a))] 154]++[Ag.th IK (U a) ((x,true)::ml),Bc A c r]):=H.run (M:=[N (U w) [V (some ⟨m,o,none⟩) nodes.length nc,.map (some f)] 122,N (U d) [.map (some (U a))] 154]) (M':=[N (U w) [V (some ⟨m,o,none⟩) nodes.length nc,.map (some f)] 122,N (U d) [.map (some (U a))] 154]) z0 d0 rfl;refine Aw (g:=m) (off:=o) (cap:=nc) (sz:=1) (k:=ix) (len:=nodes.length) (some 30) a0.2 Tryz.underlying22 ?_;refine EF 3 m (o+ix*1) (J (x:Int)) (some 31) (by simpa using Aj (d1 ix x hd) q0 B 0 _ rfl) ?_;refine Cp (Aq BH 90 (AD (AD Qj))) (AD (AD Qj)) (U p) _ [] dq [(1,Z (U w)),(5,Z (U d)),(26,V A r.length c),(32,V (some ⟨U p,0,none⟩) 1 1)] (U p+1) [N (U w) [V (some ⟨m,o,none⟩) nodes.length nc,.map (some f)] 122,N (U d) [.map (some (U a))] 154,N (U p) [J (x:Int)] 3] (H.lies (M:=[N (U w) [V (some ⟨m,o,none⟩) nodes.length nc,.map (some f)] 122,N (U d) [.map (some (U a))] 154])) λn1 t1 w0 c0=>?_;replace B:=B.trans (H.keptB (M:=[N (U w) [V (some ⟨m,o,none⟩) nodes.length nc,.map (some f)] 122,N (U d) [.map (some (U a))] 154]) c0);replace H:AY (U w) n1 (List.map Th.ent [N (U w) [V (some ⟨m,o,none⟩) nodes.length nc,.map (some f)] 122,N (U d) [.map (some (U a))] 154,N (U p) [J (x:Int)] 3]++[Ag.th IK (U a) ((x,true)::ml),Bc A c r]):=H.run (M:=[N (U w) [V (some ⟨m,o,none⟩) nodes.length nc,.map (some f)] 122,N (U d) [.map (some (U a))] 154]) (M':=[N (U w) [V (some ⟨m,o,none⟩) nodes.length nc,.map (some f)] 122,N (U d) [.map (some (U a))] 154,N (U p) [J (x:Int)] 3]) w0 c0 rfl;have G3:=H.goods (M:=[N (U w) [V (some ⟨m,o,none⟩) nodes.length nc,.map (some f)] 122,N (U d) [.map (some (U a))] 154,N (U p) [J (x:Int)] 3]);refine CD H 4 rfl x [J (x:Int)] rfl (U p) (G3 _ (mem_of_getElem? (i:=2) rfl)) (Cr dq) (by kernel_rfl) (.tmp 26) (.tmp 32) 22 (by kernel_rfl) (by kernel_rfl) (by kernel_rfl) (by decide) (by kernel_rfl) (by kernel_rfl) rfl rfl (by((try simp only[maxLen,length_map,length_append,length_cons,length_nil,length_singleton])<;>omega)) λA2 c2 l0 Hn r1=>?_;replace H:AY (U w) l0 (List.map Th.ent [N (U w) [V (some ⟨m,o,none⟩) nodes.length nc,.map (some f)] 122,N (U d) [.map (some (U a))] 154]++[Ag.th IK (U a) ((x,true)::ml),Bc A2 c2 (r++[x])]):=Hn.pick [0,1,3,4] rfl (by decide);clear Hn;replace B:=B.trans r1;refine Cp 60 (AD dq) (U l0) _ [] (Ab UH) [(1,Z (U w)),(4,V A2 (r++[x]).length c2),(5,Z (U d))] (U l0) [N (U w) [V (some ⟨m,o,none⟩) nodes.length nc,.map (some f)] 122,N (U d) [.map (some (U a))] 154] (H.lies (M:=[N (U w) [V (some ⟨m,o,none⟩) nodes.length nc,.map (some f)] 122,N (U d) [.map (some (U a))] 154])) λm1 l1 v0 b0=>?_;replace B:=B.trans (H.keptB (M:=[N (U w) [V (some ⟨m,o,none⟩) nodes.length nc,.map (some f)] 122,N (U d) [.map (some (U a))] 154]) b0);replace H:AY (U w) m1 (List.map Th.ent [N (U w) [V (some ⟨m,o,none⟩) nodes.length nc,.map (some f)] 122,N (U d) [.map (some (U a))] 154]++[Ag.th IK (U a) ((x,true)::ml),Bc A2 c2 (r++[x])]):=H.run (M:=[N (U w) [V (some ⟨m,o,none⟩) nodes.length nc,.map (some f)] 122,N (U d) [.map (some (U a))] 154]) (M':=[N (U w) [V (some ⟨m,o,none⟩) nodes.length nc,.map (some f)] 122,N (U d) [.map (some (U a))] 154]) v0 b0 rfl;refine e0 _ _ ⟨r++[x],(x,true)::ml,A2,c2,l1,rfl,by rw[hv,length_append,length_singleton,show nodes.length+1-(r.length+1)=nodes.length-r.length by omega],by((try simp only[maxLen,length_map,length_append,length_cons,length_nil,length_singleton])<;>omega),by((try simp only[maxLen,length_map,length_append,length_cons,length_nil,length_singleton])<;>omega),B,H⟩ ?_;show nodes.length-gU (V A2 (r++[x]).length c2)<nodes.length-gU (V A r.length c);simp only[gU,length_append,length_singleton];omega
 rw[show nodes.length+1-r.length=(nodes.length-r.length)+1 by omega,Hi,c5]at hv;change GI nodes ns=(r,0)at hv;refine FU (fn:=Tryz.f54) 60 (.tuple #[V A r.length c,J 0]) λwz Bz=>⟨A,c,by rw[hv]<;>rfl,B.trans (Bz.mono B.size),?_⟩;rw[hv];exact(H.below Bz).pick [3] rfl (by decide)
end
end Go.Proofs.YtkpemkkbjfbmaaaGreat

/- Contracts of functions, part 24. -/
import Derived.Test.YtkpemkkbjfbmaaaGreatMc22
import Derived.Test.YtkpemkkbjfbmaaaGreatMc23
import Derived.Test.YtkpemkkbjfbmaaaGreatMc01
import Derived.Test.YtkpemkkbjfbmaaaGreatMc21
import Derived.Test.YtkpemkkbjfbmaaaGreatMc19
set_option linter.all false
namespace Go.Proofs.YtkpemkkbjfbmaaaGreat
open List
open Go.RowKit
set_option maxRecDepth 100000
set_option maxHeartbeats 1000000
attribute [local irreducible] BI BQ AD AE AG Au Ab AO A8 Bi Ct BX EH DW BO At Fr
abbrev YZ:=List (YX×Int×Int)×List AIL
end Go.Proofs.YtkpemkkbjfbmaaaGreat
namespace Go.Proofs.YtkpemkkbjfbmaaaGreat
open List
set_option maxRecDepth 100000
section
variable {n:List UInt8} {ds:List Df} {p:Int} (h0:0<=p) (h1:p+1<=84005) (hd:∀e∈ds,e.frm≠p+1)
include h0 h1 hd
end
end Go.Proofs.YtkpemkkbjfbmaaaGreat
namespace Go.Proofs.YtkpemkkbjfbmaaaGreat
open List
noncomputable section
open Go.RowKit
set_option maxRecDepth 100000
set_option maxHeartbeats 1000000
def rowsSc (w:World) (A:Option Addr) (l:List (List (Int×Int×Int))):Prop:=∃rs,Dh (λe r=>∃A c,r=[V A e.length c]/\Dl w A e) l rs/\DF Cg w 1 A rs
def Kx (w:World) (A:Option Addr) (l:List AM):Prop:=Cn 6 FR w A l
abbrev Dg (e:DY) (A:Option Addr) (c:Nat):List Value:=[Y (e.1),I e.2.1,J e.2.2.1,J e.2.2.2.1,J e.2.2.2.2.1,V A e.2.2.2.2.2.length c]
def rowsRt (w:World) (A:Option Addr) (l:List DY):Prop:=∃rs,Dh (λe r=>∃A c,r=Dg e A c/\Kx w A e.2.2.2.2.2) l rs/\DF Cg w 6 A rs
theorem XC {α:Type} {a:α->List Value->Prop}:∀ {l:List α} {rs:List (List Value)} {i:Nat} {e:α},Dh a l rs->l[i]?=some e->∃r,rs[i]?=some r/\a e r
 | [],_,_,_,_,h=>by simp at h
 | _::_,[],_,_,h,_=>h.elim
 | _::_,r::_,0,_,h,hi=>⟨r,rfl,by simp at hi;exact hi ▸ h.1⟩
 | _::_,_::_,i+1,_,h,hi=>by obtain⟨r,b,h2⟩:=XC (i:=i) h.2 (by simpa using hi);exact⟨r,by simpa using b,h2⟩
theorem Nq {α:Type} {b a:α->List Value->Prop}:∀ {l:List α} {rs:List (List Value)},(∀e r,e∈l->b e r->a e r)->Dh b l rs->Dh a l rs
 | [],[],_,_=>trivial
 | [],_::_,_,h=>h.elim
 | _::_,[],_,h=>h.elim
 | _::_,_::_,hm,h=>⟨hm _ _ (by simp) h.1,Nq (λe r he=>hm e r (by simp[he])) h.2⟩
theorem Nr {α β:Type} {f:α->β} {b:α->List Value->Prop} {a:β->List Value->Prop}:∀ {l:List α} {rs:List (List Value)},(∀e r,e∈l->b e r->a (f e) r)->Dh b l rs->Dh a (l.map f) rs
 | [],[],_,_=>trivial
 | [],_::_,_,h=>h.elim
 | _::_,[],_,h=>h.elim
 | _::_,_::_,hm,h=>⟨hm _ _ (by simp) h.1,Nr (λe r he=>hm e r (by simp[he])) h.2⟩
theorem rowsSc.below {w w':World} {A:Option Addr} {l:List (List (Int×Int×Int))} (h:rowsSc w A l) (B:Below (U w) w w'):rowsSc w' A l:=by obtain⟨rs,a,h2⟩:=h;exact⟨rs,Nq (λe r _ ⟨A,c,hr,he⟩=>⟨A,c,hr,he.below B⟩) a,DF.below h2 B⟩
theorem Kx.below {w w':World} {A:Option Addr} {l:List AM} (h:Kx w A l) (B:Below (U w) w w'):Kx w' A l:=Cn.below h B
theorem rowsRt.below {w w':World} {A:Option Addr} {l:List DY} (h:rowsRt w A l) (B:Below (U w) w w'):rowsRt w' A l:=by obtain⟨rs,a,h2⟩:=h;exact⟨rs,Nq (λe r _ ⟨A,c,hr,he⟩=>⟨A,c,hr,he.below B⟩) a,DF.below h2 B⟩
theorem S4 {α:Type} {n:Nat} {a:α->List Value->Prop} {w:World} {A:Option Addr} {l:List α} {rs:List (List Value)} (c:Dh a l rs) (h2:DF Cg w n A rs) (b:0<l.length):∃g off,A=some ⟨g,off,none⟩/\g<(U w)/\∀(i:Nat) e,l[i]?=some e->∃r,a e r/\w.rangeAt g (off+i*n) r:=by
 rcases h2 with h2 | ⟨g,off,rfl,_,hg,hc⟩
 ·rw[<-GW c,h2]at b;exact absurd b (Nat.lt_irrefl _)
 refine⟨g,off,rfl,hg,λi e hi=>?_⟩;obtain⟨r,hr,hx⟩:=XC c hi;exact⟨r,hx,λj u hu=>hc i r hr j u hu⟩
theorem rowsSc.all {w:World} {A:Option Addr} {l:List (List (Int×Int×Int))} (h:rowsSc w A l) (b:0<l.length):∃g off,A=some ⟨g,off,none⟩/\g<(U w)/\∀(i:Nat) e,l[i]?=some e->∃a c,w.rangeAt g (off+i*1) [V a e.length c]/\Dl w a e:=by obtain⟨rs,f,h2⟩:=h;obtain⟨g,off,hA,hg,ha⟩:=S4 f h2 b;refine⟨g,off,hA,hg,λi e hi=>?_⟩;obtain⟨r,⟨a,c,rfl,hr⟩,d⟩:=ha i e hi;exact⟨a,c,d,hr⟩
theorem Kx.all {w:World} {A:Option Addr} {l:List AM} (h:Kx w A l) (a:0<l.length):∃g off,A=some ⟨g,off,none⟩/\g<(U w)/\∀(i:Nat) e,l[i]?=some e->w.rangeAt g (off+i*6) (FR e):=Cn.all h a
theorem rowsRt.all {w:World} {A:Option Addr} {l:List DY} (h:rowsRt w A l) (b:0<l.length):∃g off,A=some ⟨g,off,none⟩/\g<(U w)/\∀(i:Nat) e,l[i]?=some e->∃a c,w.rangeAt g (off+i*6) (Dg e a c)/\Kx w a e.2.2.2.2.2:=by obtain⟨rs,f,h2⟩:=h;obtain⟨g,off,hA,hg,ha⟩:=S4 f h2 b;refine⟨g,off,hA,hg,λi e hi=>?_⟩;obtain⟨r,⟨a,c,rfl,hr⟩,d⟩:=ha i e hi;exact⟨a,c,d,hr⟩
theorem ZR {α:Type} {T:TypeId} {n:Nat} {f:α->List Value} {A:Option Addr} {c:Nat} {l:List α} {w:World} (hn:∀e,(f e).length=n) (h:(Th.row T n (λe r=>r=f e) A c l).P w):Cn n f w A l:=by obtain⟨rs,hr,ho⟩:=h;have:=TC (GW hr) (Jp (λe r hr=>hr ▸ hn e) hr) ho;rw[JW hr]at this;exact this
theorem AY.rowsSc {b:Nat} {w:World} {L:List Th} {A:Option Addr} {c:Nat} {xs:List OM} (h:AY b w L) (i j:Nat) (hi:L[i]?=some (El A c xs)) (a:L[j]?=some (Dv xs)):rowsSc w A (xs.map Prod.fst):=by obtain⟨rs,d,h2⟩:=h.rows (λe r hr=>hr ▸ rfl) i hi;have hf:(Dv xs).P w:=h.all j _ a;exact⟨rs,Nr (λe r he hr=>⟨e.2.1,e.2.2,hr,ZR (T:=107) (c:=e.2.2) (λ_=>rfl) (hf (O8 e) (mem_map_of_mem he))⟩) d,h2⟩
theorem AY.rowsRt {b:Nat} {w:World} {L:List Th} {A:Option Addr} {c:Nat} {xs:List ON} (h:AY b w L) (i j:Nat) (hi:L[i]?=some (Im A c xs)) (a:L[j]?=some (Ge xs)):rowsRt w A (xs.map ZQ):=by obtain⟨rs,d,h2⟩:=h.rows (λe r hr=>hr ▸ rfl) i hi;have hf:(Ge xs).P w:=h.all j _ a;exact⟨rs,Nr (λe r he hr=>⟨e.2.2.2.2.2.2.1,e.2.2.2.2.2.2.2,hr,ZR (T:=130) (c:=e.2.2.2.2.2.2.2) (λ_=>rfl) (hf (Nl e) (mem_map_of_mem he))⟩) d,h2⟩
theorem wX (w:World) (a b c f e d:Int):(binOp .neq 107 (.agg #[J a,J b,J c]) (.agg #[J f,J e,J d])).run Tryz.prog w=.ok (I (!(a==f&&(b==e&&c==d)))) w:=by
 simp[go_sem]
 repeat' split
 all_goals simp_all
theorem wW (w:World) (a b c d e f k j i h e' g:Int):(binOp .neq 130 (.agg #[J a,J b,J c,J d,J e,J f]) (.agg #[J k,J j,J i,J h,J e',J g])).run Tryz.prog w=.ok (I (!(a==k&&(b==j&&(c==i&&(d==h&&(e==e'&&f==g))))))) w:=by
 simp[go_sem]
 repeat' split
 all_goals simp_all
abbrev H7 (A:Option Addr) (c:Nat) (l:List Int):Th:=Th.row 3 1 (λe r=>r=KD e) A c l
theorem AY.rowsInt {b:Nat} {w:World} {L:List Th} {A:Option Addr} {c:Nat} {l:List Int} (h:AY b w L) (i:Nat) (hi:L[i]?=some (H7 A c l)):rowsInt w A l:=h.rowsF (λ_=>rfl) i hi
theorem S5 (z:List Value):∀n,Nn n z=(replicate n z).flatten
 | 0=>rfl
 | n+1=>by rw[replicate_succ,flatten_cons,<-S5 z n];rfl
theorem XB {α:Type} {a:α->List Value->Prop} {e:α} {r:List Value} (h:a e r):∀n,Dh a (replicate n e) (replicate n r)
 | 0=>trivial
 | n+1=>⟨h,XB h n⟩
theorem OC (z:List Value):∀n,(replicate n z).flatten.length=n*z.length
 | 0=>by simp
 | n+1=>by rw[replicate_succ,flatten_cons,length_append,OC z n,Nat.succ_mul,Nat.add_comm]
theorem S9:∀ {l:List Nat} {a:List Int} {rs:List (List Value)},a=l.map (λ(n:Nat)=>(n:Int))->Dh (λ(e:Int) r=>r=KD e) a rs->Dh (λ(e:Nat) r=>r=F7 e) l rs
 | [],_,[],rfl,_=>trivial
 | [],_,_::_,rfl,h=>h.elim
 | _::_,_,[],rfl,h=>h.elim
 | _::_,_,_::_,rfl,h=>⟨h.1,S9 rfl h.2⟩
theorem AY.natRow {b:Nat} {w:World} {L:List Th} {A:Option Addr} {c:Nat} {d:List Int} (h:AY b w L) (l:List Nat) (hl:d=l.map (λ(n:Nat)=>(n:Int))) (i:Nat) (hi:L[i]?=some (H7 A c d)):AY b w (L.set i (Bc A c l)):=by
 obtain⟨rs,f,h2⟩:(H7 A c d).P w:=h.all i _ hi;have a:d.length=l.length:=by rw[hl,length_map]
 refine h.set i hi (Nat.le_refl _) ⟨rs,S9 hl f,by rw[<-a];exact h2⟩ (λk e=>?_) (λ_ _ _=>rfl);exact⟨(h.lo i _ hi k e).2,.inl e⟩
section
variable {P:Program} {fi:FuncId} {R:Ending->World->Prop} {b k:Nat} {td:List Item} {E:Nat->Value} {L:List Th} {w:World}
theorem qx {α:Type} (p:α->List Value->Prop) (z0:α) (m:List Value) (b0:p z0 m) {T:TypeId} {sz bytes:Nat} (f:(P.info? T).map (λi=>(i.zero.map (λz=>z.cells.toList),i.size,i.bytes))=some (some m,sz,bytes)) (v:m.length=sz)
  (H:AY b w L) (o:Oper) (hc:GP k E td=some o) {t:TypeId} {x y:Operand} (ho:o.op=.makeSlice t x y) (ht:P.underlying t=some (.slice T)) (n:Nat) (hx:BK k E x=J (n:Int)) (hy:BK k E y=J (n:Int)) (hn:n<=10000000000) (e0:bytes<=1024)
  (hk:∀g w',w'.heap.size=w.heap.size+1->AY b w' (L++[Th.row T sz p (some ⟨g,0,none⟩) n (replicate n z0)])->Below b w w'->At P fi R (AD td) (Fr k (A8 E o.dst (.slice (some ⟨g,0,none⟩) n n))) w'):At P fi R td (Fr k E) w:=by
 obtain⟨a,hi,r⟩:=Option.map_eq_some_iff.1 f;simp only[Prod.mk.injEq]at r;obtain⟨hz,hs,hb⟩:=r;obtain⟨z,hz,a0⟩:=Option.map_eq_some_iff.1 hz;have d:(a.bytes:Int)*((n:Nat):Int)<=281474976710656:=by
  have:a.bytes*n<=1024*10000000000:=Nat.mul_le_mul (by omega) hn;have h4:((a.bytes*n:Nat):Int)<=281474976710656:=by omega
  rwa [Int.natCast_mul]at h4
 have e:=run_make (P:=P) w t T a z ht hi hz .i64 .i64 (n:Int) (n:Int) (by omega) (by omega) d (by omega);have l:(madeCells z.cells (((n:Nat):Int).toNat*a.size)).toList=(replicate n m).flatten:=by have h:=Tm z.cells.toList n;rw[Array.toArray_toList,a0,v,<-hs,S5]at h;rw[Int.toNat_natCast];exact h
 have c:=OC m n;rw[v]at c;generalize madeCells z.cells (((n:Nat):Int).toNat*a.size)=cs at e l;have hB:Below w.heap.size w (w.alloc (.cells cs T)):=⟨rfl,rfl,rfl,by simp,λq hq=>IG w _ q hq⟩;have c0:(execOp (BK k E) o).run P w=.ok (.value (.slice (some ⟨w.heap.size,0,none⟩) n n)) (w.alloc (.cells cs T)):=by unfold execOp;simp only[ho,hx,hy];rw[Sem.run_bind,e];rfl
 refine Om o hc c0 (hk _ _ (by simp) (H.join hB ⟨by simp,λi u hi=>?_,λi u hi q hq=>?_,λi j s u hi hj d0=>?_⟩) (hB.mono H.base))
 ·cases i with
  | zero=>
   obtain rfl:=Option.some.inj hi;refine⟨replicate n m,XB b0 n,by rw[length_replicate,c],.inr ⟨w.heap.size,n,cs,by rw[length_replicate],Nat.zero_le _,heap_alloc_new w _,by rw[length_replicate];exact Nat.le_refl _,by unfold maxLen;omega,?_,?_⟩⟩
   ·rw[<-Array.length_toList,l,c]
   rw[l,length_replicate,take_of_length_le (by rw[c];exact Nat.le_refl _)]
  | succ i=>simp at hi
 ·cases i with
  | zero=>
   obtain rfl:=Option.some.inj hi;obtain rfl:w.heap.size=q:=by have:=Option.some.inj hq;injection this
   simp
  | succ i=>simp at hi
 cases i with
 | zero=>cases j with
  | zero=>exact absurd rfl d0
  | succ j=>simp at hj
 | succ i=>simp at hi
end
def wd:Op->Bool
 | .makeSlice _ _ _=>true
 | _=>false
def KZ (n:Nat) (s s':YZ):Prop:=s'.1.length<=s.1.length+n/\s'.2.length<=s.2.length+n
theorem KZ.refl (n:Nat) (s:YZ):KZ n s s:=⟨by omega,by omega⟩
theorem KZ.trans {m n k:Nat} {s s' e:YZ} (h:KZ m s s') (f:KZ n s' e) (g:m+n<=k):KZ k s e:=by obtain⟨a,b⟩:=h;obtain⟨c,d⟩:=f;exact⟨by omega,by omega⟩
theorem KZ.le {m n:Nat} {s s':YZ} (h:KZ m s s') (c:m<=n):KZ n s s':=by obtain⟨a,b⟩:=h;exact⟨by omega,by omega⟩
attribute [local irreducible] BI BQ AD AE AG Au Ab AO A8 Bi Ct BX EH DW BO At Fr
def CP (A:Option Addr) (c:Nat) (l:List (Int×Int)):Th:=Th.row 47 2 (λe r=>r=BD e) A c l
structure HP where
 iA:Option Addr
 ic:Nat
 sA:Option Addr
 sc:Nat
 pA:Option Addr
 pc:Nat
 rA:Option Addr
 rc:Nat
 nA:Option Addr
 nc:Nat
 hA:Option Addr
 hc:Nat
structure EA where
 ins:List (List UInt8)
 scs:List (List (Int×Int×Int))
 pas:List (List UInt8)
 rts:List DY
 inp:List Dz
 past:List IY
abbrev Cd (m:HP) (d:EA) (g:Nat) (vA:Option Addr) (vn vc:Nat) (kA:Option Addr) (kn kc:Nat):Ax:=(N g [V m.iA d.ins.length m.ic,V m.sA d.scs.length m.sc,V m.pA d.pas.length m.pc,V m.rA d.rts.length m.rc,V m.nA d.inp.length m.nc,V m.hA d.past.length m.hc,V vA vn vc,V kA kn kc] 99)
structure Jg (w:World) (m:HP) (d:EA):Prop where
 ins:rowsStr w m.iA d.ins
 scs:rowsSc w m.sA d.scs
 pas:rowsStr w m.pA d.pas
 rts:rowsRt w m.rA d.rts
 inp:Kg w m.nA d.inp
 past:Gn w m.hA d.past
 insL:d.ins.length<=4294967296
 scsL:d.scs.length<=4294967296
 pasL:d.pas.length<=4294967296
 rtsL:d.rts.length<=4294967296
 inpL:d.inp.length<=4294967296
 pastL:d.past.length<=4294967296
 scsE:∀e∈d.scs,e.length<=4294967296
 eachL:∀e∈d.past,e.2.length<=4294967296
theorem S8 {α:Type} {a:α->List Value->Prop}:∀ {l:List α} {x:α} {rs:List (List Value)},Dh a (l++[x]) rs->∃ss r,rs=ss++[r]/\Dh a l ss/\a x r
 | [],_,[r],h=>⟨[],r,rfl,trivial,h.1⟩
 | [],_,[],h=>h.elim
 | [],_,_::_::_,h=>h.2.elim
 | _::_,_,[],h=>h.elim
 | e::l,x,r::rs,h=>by obtain⟨ss,b,rfl,c,h2⟩:=S8 (l:=l) h.2;exact⟨r::ss,b,rfl,⟨h.1,c⟩,h2⟩
theorem W6 {α:Type} {T:TypeId} {n:Nat} {a:α->List Value->Prop} {A:Option Addr} {c:Nat} {l:List α} {x:α} {w:World} (hn:∀e r,a e r->r.length=n) (h:(Th.row T n a A c (l++[x])).P w):(Th.row T n a A c l).P w/\l.length+1<=c:=by
 obtain⟨rs,hr,hl,ho⟩:=h;obtain⟨ss,r,rfl,o,h2⟩:=S8 hr;have hf:(ss++[r]).flatten=ss.flatten++r:=by simp
 rw[hf]at hl ho;rw[length_append,length_append,hn _ _ h2,length_singleton,Nat.add_mul,Nat.one_mul]at hl;have hs:ss.flatten.length=l.length*n:=by omega
 rcases ho with⟨_,p⟩ | ⟨g,cap,b,e,m,k,f,j,i,d⟩
 ·rw[length_append,length_singleton]at p;omega
 injection e with e1 e2 e3
 subst e1 e3;rw[length_append,length_singleton]at f d;refine⟨⟨ss,o,hs,.inr ⟨g,c,b,rfl,m,k,by omega,j,i,?_⟩⟩,f⟩;have:=congrArg (List.take (l.length*n)) d;rw[take_take,Nat.min_eq_left (by rw[Nat.add_mul];omega),take_left' hs]at this;exact this
structure Ef (w:World) (m:HP) (d:EA) (g:Nat) (vA:Option Addr) (vs:List (Int×Int)) (vc:Nat) (kA:Option Addr) (kc:Nat) (l:List (Int×Int)) (ζ:List Th) (we:World):Prop where
 B:Below (U w) w we
 H:AY (U w) we ([Th.ent (Cd m d g vA vs.length vc kA l.length kc),CP kA kc l]++ζ)
theorem Wk.lend {w0 w:World} {e:Ax} {M:List Ax} {L T:List Th} (K:Wk w0 w (e::M) L T):AY (U w0) w ((Th.ent e::L)++(M.map Th.ent++T)):=
 Wk.swap3 (X:=M.map Th.ent) (η:=Th.ent e::L) (τ:=T) (Wk.swap3 (X:=[Th.ent e]) (η:=M.map Th.ent) (τ:=L++T) K.H)
theorem Wk.unlend {w0 w:World} {e:Ax} {M:List Ax} {L T:List Th} (B:Below (U w0) w0 w) (h:AY (U w0) w ((Th.ent e::L)++(M.map Th.ent++T))):Wk w0 w (e::M) L T:=
 ⟨B,Wk.swap3 (X:=M.map Th.ent) (η:=[Th.ent e]) (τ:=L++T) (Wk.swap3 (X:=Th.ent e::L) (η:=M.map Th.ent) (τ:=T) h)⟩
noncomputable def Se:Code:=Tryz.f65.body.getD .skip
def eA:=AB (Aq Aa 90 [.code Se]) [.code Se]
def tx:=AB (Aq IV 90 (AD (AD eA))) (AD (AD eA))
def AE2:=Ψ tx
theorem Iw {w:World} {m:HP} {d:EA} {g:Nat} {vA:Option Addr} {vs:List (Int×Int)} {vc:Nat} {u:Option Addr} {j:Nat} {l:List (Int×Int)} {x:Int×Int} {ζ:List Th} {s:World} (hl:l.length<=4294967296) (M:Ef w m d g vA vs vc u j (l++[x]) ζ s) :
  Calls Tryz.prog 65 ([Z g]:List Value).toArray s λe w'=>e=.returned (D (BD x))/\Ef w m d g vA vs vc u j l ζ w':=by obtain⟨B,H⟩:=M;refine AS (fn:=Tryz.f65) (c:=Se) (n:=28) ?_;rw[length_append,length_singleton]at H;have K1:Wk w s [Cd m d g vA vs.length vc u (l.length+1) j] [CP u j (l++[x])] ζ:=⟨B,H⟩;clear B H;refine Bn Aa eA [Cd m d g vA vs.length vc u (l.length+1) j,N (U s) [J 0,J 0] 47] K1 [(0,7),(0,7)] λz v=>?_;refine AX [(0,Z g),(2,Z (U s)),(3,J (IntKind.i64.wrap (((l.length+1:Nat):Int)-1))),(14,V u (l.length+1) j),(15,J (IntKind.i64.wrap (((l.length+1:Nat):Int)-1)))] λE2=>?_;rw[show IntKind.i64.wrap (((l.length+1:Nat):Int)-1)=((l.length:Nat):Int) by rw[IntWalk.i64_in _ (by omega)];omega];have hD:=W6 (α:=Int×Int) (λe r h=>by rw[h];rfl) (v.H.all (v.ix 0) _ (v.at 0 rfl));have hR:HV z u (l++[x]):=v.H.rowsF (f:=BD) (λ_=>rfl) (v.ix 0) (v.at 0 rfl);obtain⟨p,q,rfl,b0,y⟩:=hR.all (by simp);refine Aw (g:=p) (off:=q) (cap:=j) (sz:=2) (k:=l.length) (len:=l.length+1) (some 16) (by omega) Tryz.underlying45 ?_;refine Bd 47 p (q+l.length*2) (BD x) (some 17) (y l.length x (by simp)) ?_;refine Bn IV tx [Cd m d g vA vs.length vc (some ⟨p,q,none⟩) (l.length+1) j,N (U s) [J 0,J 0] 47,N (U z) (BD x) 47] v [(2,0),(0,7)] λw2 K3=>?_;refine EW (Lm (t:=45) (x:=.tmp 22) (h:=.tmp 23) (a:=some ⟨p,q,none⟩) (len:=l.length+1) (cap:=j) (i:=l.length) (by kernel_rfl) Tryz.underlying45 (by decide) (by kernel_rfl) (by kernel_rfl) (by omega) (λb hb=>by cases hb;rfl)) ?_;refine An AE2 [Cd m d g vA vs.length vc (some ⟨p,q,none⟩) l.length j,N (U s) (BD x) 47,N (U z) (BD x) 47] K3 [(0,7),(2,0),(1,0)] λw3 o=>?_;refine AN o (1,0) (D (BD x)) ⟨rfl,o.B,?_⟩;have a0:=W6 (α:=Int×Int) (λe r h=>by rw[h];rfl) (o.H.all (o.ix 0) _ (o.at 0 rfl));have K5:Wk w w3 _ [CP (some ⟨p,q,none⟩) j l] ζ:=o.put 0 (by simp) (t:=CP (some ⟨p,q,none⟩) j l) (Below.refl _ _) (o.H.set (o.ix 0) (o.at 0 rfl) (Nat.le_refl _) a0.1 (λk hk=>⟨(o.H.lo _ _ (o.at 0 rfl) k hk).2,.inl hk⟩) λ_ _ _=>rfl);exact(K5.pk [0] [0] (M':=[Cd m d g vA vs.length vc (some ⟨p,q,none⟩) l.length j]) (L':=[CP (some ⟨p,q,none⟩) j l])).H
def FP (nm:List UInt8):List Dz->Int×Int×Int
 | []=>(0,0,16)
 | e::l=>cond (decide (e.1=nm)) (cond (!(AV e.2.1 e.2.2)) (0,0,1) (e.2.1,e.2.2,0)) (FP nm l)
theorem XR {nm:List UInt8} {l:List Dz} (i:Nat) (e:Dz) (hi:l[i]?=some e):FP nm (l.drop i)=cond (decide (e.1=nm)) (cond (!(AV e.2.1 e.2.2)) (0,0,1) (e.2.1,e.2.2,0)) (FP nm (l.drop (i+1))):=by have hl:i<l.length:=(List.getElem?_eq_some_iff.1 hi).1;have he:l[i]=e:=(List.getElem?_eq_some_iff.1 hi).2;rw[<-getElem_cons_drop hl,FP,he]
noncomputable def ac:Code:=Tryz.f102.body.getD .skip
def uM:=Ac 1 [.code ac]
def eC:=Ω uM
def UL:=ν (Au eC)
def uL:=AB (Aq Aa 90 (AE UL)) (AE UL)
def uK:=Ac 4 (AD (AD uL))
def uJ:=Ω uK
def uI:=Ξ uJ
def eB:=Ψ uI
def AE7:=Θ eB
def AE6:=Ξ eB
def AAt:=Ξ UL
theorem gL {w:World} {m:HP} {d:EA} {g:Nat} {vA:Option Addr} {vn vc:Nat} {kA:Option Addr} {kn kc:Nat} {a:World} (nm:List UInt8) (χ:Jg w m d) (B:Below (U w) w a) (hX:(Cd m d g vA vn vc kA kn kc).good a) :
  Calls Tryz.prog 102 ([Z g,Y nm]:List Value).toArray a λe w'=>e=.returned (CY (FP nm d.inp))/\Below (U a) a w':=by
 refine AS (fn:=Tryz.f102) (c:=ac) (n:=30) ?_;have K1:=Wk.start a;refine Bg 1 uM [N (U a) [J 0,J 0] 47] K1 [] λw1 K2=>?_;refine Ap K2 (mem:=[Cd m d g vA vn vc kA kn kc]) [(3,0,4)] [] (λe he=>by rw[mem_singleton.1 he];exact FT hX K2.B.size (K2.B.block _ hX.1)) (λsp h=>by cases h) λw2 E2 z=>?_;refine AC eC z [] λw3 t=>?_;refine AX [(1,Y nm),(4,Z (U a)),(11,V m.nA d.inp.length m.nc),(12,J (d.inp.length:Int)),(13,J ((0:Nat):Int))] λE3=>?_;refine Bp (by kernel_rfl) (λE wx=>∃(i:Nat) (E0:Nat->Value),i<=d.inp.length/\E=BN E0 [(1,Y nm),(4,Z (U a)),(11,V m.nA d.inp.length m.nc),(12,J (d.inp.length:Int)),(13,J (i:Int))]/\FP nm d.inp=FP nm (d.inp.drop i)/\Wk a wx [N (U a) [J 0,J 0] 47] [] []) (λE _=>d.inp.length-AP (E 13)) ⟨0,E3,Nat.zero_le _,rfl,rfl,t⟩ ?_;clear K1 K2 z t;rintro E wx ⟨i,E0,hi,rfl,hv,z⟩ o;have hL:=χ.inpL;refine AC UL z [] λw4 t=>?_;refine AH (decide ((i:Int)<(d.inp.length:Int))) (λc5=>?_) (λc5=>?_)
 ·have j:i<d.inp.length:=by have:=of_decide_eq_true c5;omega
  obtain⟨e,he⟩:∃e,d.inp[i]?=some e:=⟨_,getElem?_eq_getElem j⟩;rw[XR i e he]at hv;obtain⟨gi,fi,hA,c0,r⟩:=χ.inp.all (by omega);refine Ao Aa uL t [] λw6 s=>?_;rw[hA];refine Aw (g:=gi) (off:=fi) (cap:=m.nc) (sz:=3) (k:=i) (len:=d.inp.length) (some 15) j Tryz.underlying38 ?_;refine Bd 93 gi (fi+i*3) (Fn e) (some 16) (Aj (r i e he) c0 (B.trans (s.B.mono B.size))) ?_;refine Bg 4 uK [N (U a) [J 0,J 0] 47,N (U w6) (Fn e) 93] s [(1,0)] λw7 K7=>?_;refine Ap K7 [(1,1,0)] [⟨3,[(18,Y (e.1)),(19,Y nm)],I (!(decide (e.1=nm))),true⟩] K7.G (λsp h=>?_) λw8 E8 K8=>?_
  ·rw[mem_singleton.1 h];exact BR λ_ E u _=>Ln (T:=9) (T':=9) (x:=.tmp 18) (y:=.tmp 19) (by kernel_rfl) (by kernel_rfl) (by kernel_rfl)
  refine AC uJ K8 [] λw9 K9=>?_;refine AH (!(decide (e.1=nm))) (λb=>?_) (λb=>?_)<;>rw[Bool.not_eq_eq_eq_not]at b<;>(try rw[Bool.not_true]at b)<;>(try rw[Bool.not_false]at b)<;>rw[b]at hv
  ·refine AC (Ab eC) K9 [] λq p=>?_;refine AX [(1,Y nm),(4,Z (U a)),(11,V (some ⟨gi,fi,none⟩) d.inp.length m.nc),(12,J (d.inp.length:Int)),(13,J (IntKind.i64.wrap ((i:Int)+1)))] λe0=>?_;rw[Bs i (by omega),<-hA];refine o _ _ ⟨i+1,e0,j,rfl,hv,p.pk [0] []⟩ ?_;show d.inp.length-AP (J ((i+1:Nat):Int))<d.inp.length-AP (J (i:Int));simp only[AP];omega
  refine AC uI K9 [(1,1)] λq p=>?_;refine AW p (args:=[D [J e.2.1,J e.2.2]]) (Bw e.2.1 e.2.2 q) λh0 d0=>?_;refine AC eB d0 [] λg0 v=>?_;refine AH (!(AV e.2.1 e.2.2)) (λl=>?_) (λl=>?_)
  ·refine Ar AE7 v [(0,0)] λa0 f=>?_;refine AN f (0,0) (.tuple #[D [J 0,J 0],J 1]) ⟨?_,f.B⟩;rw[hv,cond_true,l]<;>rfl
  refine Ar AE6 v [(1,1),(0,0)] λa0 f=>?_;refine AN f (0,0) (.tuple #[D [J e.2.1,J e.2.2],J 0]) ⟨?_,f.B⟩;rw[hv,cond_true,l]<;>rfl
 have b0:i=d.inp.length:=by have:=of_decide_eq_false c5;omega
 rw[b0,drop_length,FP]at hv;refine Ar AAt t [(0,0)] λw6 s=>?_;refine AN s (0,0) (.tuple #[D [J 0,J 0],J 16]) ⟨?_,s.B⟩;rw[hv]<;>rfl
structure Sr (d:EA) (vs:List (Int×Int)) (x:AM):Prop where
 inp:x.1=2->∃k:Nat,x.2.1=k/\k<d.ins.length
 val:x.1=3->∃k:Nat,x.2.1=k/\k<vs.length
 sca:x.1=4->∃k:Nat,x.2.1=k/\k<d.scs.length
 pas:x.1=19\/x.1=20->∃k:Nat,x.2.1=k/\k<d.pas.length
theorem Nj {w:World} {A:Option Addr} {ss:List (List UInt8)} {k:Nat} (h:rowsStr w A ss) (c:k<ss.length):∃g f,A=some ⟨g,f,none⟩/\∀v,Below (U w) w v->Ax.good v ⟨g,f+k*1,[Y (ss.getD k default)],9,false⟩:=by obtain⟨g,f,hA,hg,a⟩:=h.all (by omega);exact⟨g,f,hA,λv b=>⟨Nat.lt_of_lt_of_le hg b.size,Aj (a k _ (getD_some default c)) hg b⟩⟩
noncomputable def DH:Code:=Tryz.f66.body.getD .skip
def gV (d:EA) (vs:List (Int×Int)) (x:AM):Int×Int×Int:=cond (x.1==1) (x.2.2.1,x.2.2.2.1,0) (cond (x.1==2) (FP (d.ins.getD x.2.1.toNat default) d.inp) (cond (x.1==3) ((vs.getD x.2.1.toNat default).1,(vs.getD x.2.1.toNat default).2,0) (cond (x.1==19) (Hv d.past (d.pas.getD x.2.1.toNat default) x.2.2.2.2.1) (Mx d.past (d.pas.getD x.2.1.toNat default) x.2.2.2.2.1))))
def AE3:List Item:=(CK (λ_=>false) 400 [true] [.code DH]).2
theorem gI {w:World} {m:HP} {d:EA} {g:Nat} {vA:Option Addr} {vs:List (Int×Int)} {vc:Nat} {f:Option Addr} {b:Nat} {l:List (Int×Int)} {ζ:List Th} {h:World} {a n e c r:Int} (M:Ef w m d g vA vs vc f b l ζ h) :
  Calls Tryz.prog 66 ([Z g,D (FR (1,a,n,e,c,r))]:List Value).toArray h λj w'=>j=.returned (CY (n,e,0))/\Ef w m d g vA vs vc f b l ζ w':=by refine AS (fn:=Tryz.f66) (c:=DH) (n:=127) ?_;have k:Wk w h [Cd m d g vA vs.length vc f l.length b] [CP f b l] ζ:=⟨M.B,M.H⟩;refine CZ (CK (λ_=>false) 400 [true] [.code DH]).1 [(4,2),(7,1),(11,1)] AE3 k λo i=>?_;exact AN i (2,0) (.tuple #[D [J n,J e],J 0]) ⟨rfl,i.B,(i.pk [0] [0] (M':=[Cd m d g vA vs.length vc f l.length b]) (L':=[CP f b l])).H⟩
def kV:List Item:=(CK (Gs 5) 400 [false,true] [.code DH]).2
def AAo:=Ω kV
theorem Yp {w:World} {m:HP} {d:EA} {g:Nat} {vA:Option Addr} {vs:List (Int×Int)} {vc:Nat} {f:Option Addr} {b:Nat} {l:List (Int×Int)} {ζ:List Th} {o:World} {a n e c r:Int} {k:Nat} (ha:a=k) (s:k<d.ins.length) (χ:Jg w m d) (M:Ef w m d g vA vs vc f b l ζ o) :
  Calls Tryz.prog 66 ([Z g,D (FR (2,a,n,e,c,r))]:List Value).toArray o λv w'=>v=.returned (CY (FP (d.ins.getD k default) d.inp))/\Ef w m d g vA vs vc f b l ζ w':=by
 subst ha;obtain⟨iA,ic,sA,sc,pA,pc,rA,rc,nA,nc,hA,hc⟩:=m;obtain⟨h,i,rfl,t⟩:=Nj (A:=iA) χ.ins s;refine AS (fn:=Tryz.f66) (c:=DH) (n:=127) ?_;have K1:Wk w o [Cd ⟨(some ⟨h,i,none⟩),ic,sA,sc,pA,pc,rA,rc,nA,nc,hA,hc⟩ d g vA vs.length vc f l.length b] [CP f b l] ζ:=⟨M.B,M.H⟩;refine Gr (CK (Gs 5) 400 [false,true] [.code DH]).1 [(7,1)] kV [Cd ⟨(some ⟨h,i,none⟩),ic,sA,sc,pA,pc,rA,rc,nA,nc,hA,hc⟩ d g vA vs.length vc f l.length b,N (U o) [J 2,J (k:Int),J n,J e,J c,J r] 130,N (U o+1) [J 0,J 0] 47] K1 λw1 j=>?_;refine Fh j (mem:=[Cd ⟨(some ⟨h,i,none⟩),ic,sA,sc,pA,pc,rA,rc,nA,nc,hA,hc⟩ d g vA vs.length vc f l.length b,N (U o) [J 2,J (k:Int),J n,J e,J c,J r] 130,⟨h,i+k*1,[Y (d.ins.getD k default)],9,false⟩]) [0,1,2,3,4,5,6,7,8,9,10,11,12] [(5,0,0),(7,1,1),(9,2,0)] [⟨8,[(20,V (some ⟨h,i,none⟩) d.ins.length ic),(22,J (k:Int))],.pointer (some ⟨h,i+k*1,none⟩),true⟩,⟨10,[(15,Z g),(24,Y (d.ins.getD k default))],CY (FP (d.ins.getD k default) d.inp),true⟩] [(13,2,0),(14,0,0)]
  (λx hx=>by
   simp only[mem_cons,not_mem_nil,or_false]at hx;rcases hx with rfl | rfl | rfl
   ·exact j.ent 0 rfl
   ·exact j.ent 1 rfl
   exact t _ j.B)
  (λsp p=>?_) λz w2 y=>?_
 ·simp only[mem_cons,not_mem_nil,or_false]at p;rcases p with rfl | rfl
  ·exact BR λ_ E u _=>BJ (sz:=1) (cap:=ic) 29 (.tmp 20) (.tmp 22) s Tryz.underlying29
  exact AU 102 [.tmp 15,.tmp 24] _ (λ_=>by kernel_rfl) λ_ u hu=>AR hu (gL (d.ins.getD k default) χ (j.B.trans (hu.mono j.B.size)) (FT (j.ent (e:=Cd ⟨(some ⟨h,i,none⟩),ic,sA,sc,pA,pc,rA,rc,nA,nc,hA,hc⟩ d g vA vs.length vc f l.length b) 0 rfl) hu.size (hu.block _ (j.ent (e:=Cd ⟨(some ⟨h,i,none⟩),ic,sA,sc,pA,pc,rA,rc,nA,nc,hA,hc⟩ d g vA vs.length vc f l.length b) 0 rfl).1)))
 refine AC AAo y [] λw3 q=>?_;exact AN q (2,0) (CY (FP (d.ins.getD k default) d.inp)) ⟨rfl,q.B,(q.pk [0] [0] (M':=[Cd ⟨(some ⟨h,i,none⟩),ic,sA,sc,pA,pc,rA,rc,nA,nc,hA,hc⟩ d g vA vs.length vc f l.length b]) (L':=[CP f b l])).H⟩
def kU:List Item:=(CK (Gs 7) 400 [false,false,true] [.code DH]).2
def AAn:=Ω kU
theorem Ym {w:World} {m:HP} {d:EA} {g:Nat} {vA:Option Addr} {vs:List (Int×Int)} {vc:Nat} {f:Option Addr} {b:Nat} {l:List (Int×Int)} {ζ:List Th} {h:World} {a n e c r:Int} {k:Nat} (ha:a=k) (v:k<vs.length) (hv:∀u,Ef w m d g vA vs vc f b l ζ u->HV u vA vs) (M:Ef w m d g vA vs vc f b l ζ h) :
  Calls Tryz.prog 66 ([Z g,D (FR (3,a,n,e,c,r))]:List Value).toArray h λen w'=>en=.returned (CY ((vs.getD k default).1,(vs.getD k default).2,0))/\Ef w m d g vA vs vc f b l ζ w':=by
 subst ha;refine AS (fn:=Tryz.f66) (c:=DH) (n:=127) ?_;have K1:Wk w h [Cd m d g vA vs.length vc f l.length b] [CP f b l] ζ:=⟨M.B,M.H⟩;refine Gr (CK (Gs 7) 400 [false,false,true] [.code DH]).1 [(7,1)] kU [Cd m d g vA vs.length vc f l.length b,N (U h) [J 3,J (k:Int),J n,J e,J c,J r] 130,N (U h+1) [J 0,J 0] 47] K1 λy q=>?_;obtain⟨o,p,rfl,s,j⟩:=(hv y ⟨q.B,(q.pk [0] [0] (M':=[Cd m d g vA vs.length vc f l.length b]) (L':=[CP f b l])).H⟩).all (by omega);refine Fh q (mem:=[Cd m d g (some ⟨o,p,none⟩) vs.length vc f l.length b,N (U h) [J 3,J (k:Int),J n,J e,J c,J r] 130,⟨o,p+k*2,BD (vs.getD k default),47,false⟩]) [0,1,2,3,4,5,6,7] [(3,0,6),(5,1,1),(7,2,0)] [⟨6,[(33,V (some ⟨o,p,none⟩) vs.length vc),(35,J (k:Int))],.pointer (some ⟨o,p+k*2,none⟩),true⟩] [(8,2,0),(9,0,0)]
  (λx hx=>by
   simp only[mem_cons,not_mem_nil,or_false]at hx;rcases hx with rfl | rfl | rfl
   ·exact q.ent 0 rfl
   ·exact q.ent 1 rfl
   exact⟨s,j k _ (getD_some default v)⟩)
  (λsp i=>?_) λz w2 K3=>?_
 ·simp only[mem_cons,not_mem_nil,or_false]at i;rcases i with rfl;exact BR λ_ E u _=>BJ (sz:=2) (cap:=vc) 45 (.tmp 33) (.tmp 35) v Tryz.underlying45
 refine AC AAn K3 [] λw3 t=>?_;exact AN t (2,0) (CY ((vs.getD k default).1,(vs.getD k default).2,0)) ⟨rfl,t.B,(t.pk [0] [0] (M':=[Cd m d g (some ⟨o,p,none⟩) vs.length vc f l.length b]) (L':=[CP f b l])).H⟩
def ZK:List Item:=(CK (Gs 9) 400 [false,false,false,true] [.code DH]).2
def xa:=Ω ZK
theorem Te {w:World} {m:HP} {d:EA} {g:Nat} {vA:Option Addr} {vs:List (Int×Int)} {vc:Nat} {f:Option Addr} {b:Nat} {l:List (Int×Int)} {ζ:List Th} {j:World} {a n e c r:Int} {k:Nat} (ha:a=k) (s:k<d.pas.length) (χ:Jg w m d) (M:Ef w m d g vA vs vc f b l ζ j) :
  Calls Tryz.prog 66 ([Z g,D (FR (19,a,n,e,c,r))]:List Value).toArray j λv w'=>v=.returned (CY (Hv d.past (d.pas.getD k default) c))/\Ef w m d g vA vs vc f b l ζ w':=by
 subst ha;obtain⟨iA,ic,sA,sc,pA,pc,rA,rc,nA,nc,hA,hc⟩:=m;obtain⟨h,i,rfl,t⟩:=Nj (A:=pA) χ.pas s;refine AS (fn:=Tryz.f66) (c:=DH) (n:=127) ?_;have K1:Wk w j [Cd ⟨iA,ic,sA,sc,(some ⟨h,i,none⟩),pc,rA,rc,nA,nc,hA,hc⟩ d g vA vs.length vc f l.length b] [CP f b l] ζ:=⟨M.B,M.H⟩;refine Gr (CK (Gs 9) 400 [false,false,false,true] [.code DH]).1 [(7,1)] ZK [Cd ⟨iA,ic,sA,sc,(some ⟨h,i,none⟩),pc,rA,rc,nA,nc,hA,hc⟩ d g vA vs.length vc f l.length b,N (U j) [J 19,J (k:Int),J n,J e,J c,J r] 130,N (U j+1) [J 0,J 0] 47] K1 λw1 o=>?_;refine Fh o (mem:=[Cd ⟨iA,ic,sA,sc,(some ⟨h,i,none⟩),pc,rA,rc,nA,nc,hA,hc⟩ d g vA vs.length vc f l.length b,N (U j) [J 19,J (k:Int),J n,J e,J c,J r] 130,⟨h,i+k*1,[Y (d.pas.getD k default)],9,false⟩]) [0,1,2,3,4,5,6,7,8,9,10,11,12,13,14,15,16,17] [(3,0,5),(8,0,2),(10,1,1),(12,2,0),(14,1,4)] [⟨11,[(48,V (some ⟨h,i,none⟩) d.pas.length pc),(50,J (k:Int))],.pointer (some ⟨h,i+k*1,none⟩),true⟩,⟨15,[(43,V hA d.past.length hc),(52,Y (d.pas.getD k default)),(54,J c)],CY (Hv d.past (d.pas.getD k default) c),true⟩] [(18,2,0),(19,0,0)]
  (λx hx=>by
   simp only[mem_cons,not_mem_nil,or_false]at hx;rcases hx with rfl | rfl | rfl
   ·exact o.ent 0 rfl
   ·exact o.ent 1 rfl
   exact t _ o.B)
  (λsp p=>?_) λz w2 y=>?_
 ·simp only[mem_cons,not_mem_nil,or_false]at p;rcases p with rfl | rfl
  ·exact BR λ_ E u _=>BJ (sz:=1) (cap:=pc) 29 (.tmp 48) (.tmp 50) s Tryz.underlying29
  exact AU 103 [.tmp 43,.tmp 52,.tmp 54] _ (λ_=>by kernel_rfl) λ_ u hu=>AR hu (YP hA hc d.past (d.pas.getD k default) c u (χ.past.below (o.B.trans (hu.mono o.B.size))) χ.pastL χ.eachL)
 refine AC xa y [] λw3 q=>?_;exact AN q (2,0) (CY (Hv d.past (d.pas.getD k default) c)) ⟨rfl,q.B,(q.pk [0] [0] (M':=[Cd ⟨iA,ic,sA,sc,(some ⟨h,i,none⟩),pc,rA,rc,nA,nc,hA,hc⟩ d g vA vs.length vc f l.length b]) (L':=[CP f b l])).H⟩
def ZJ:List Item:=(CK (Gs 11) 400 [false,false,false,false,true] [.code DH]).2
def xZ:=Ω ZJ
theorem gJ {w:World} {m:HP} {d:EA} {g:Nat} {vA:Option Addr} {vs:List (Int×Int)} {vc:Nat} {f:Option Addr} {b:Nat} {l:List (Int×Int)} {ζ:List Th} {j:World} {a n e c r:Int} {k:Nat} (ha:a=k) (s:k<d.pas.length) (χ:Jg w m d) (M:Ef w m d g vA vs vc f b l ζ j) :
  Calls Tryz.prog 66 ([Z g,D (FR (20,a,n,e,c,r))]:List Value).toArray j λv w'=>v=.returned (CY (Mx d.past (d.pas.getD k default) c))/\Ef w m d g vA vs vc f b l ζ w':=by
 subst ha;obtain⟨iA,ic,sA,sc,pA,pc,rA,rc,nA,nc,hA,hc⟩:=m;obtain⟨h,i,rfl,t⟩:=Nj (A:=pA) χ.pas s;refine AS (fn:=Tryz.f66) (c:=DH) (n:=127) ?_;have K1:Wk w j [Cd ⟨iA,ic,sA,sc,(some ⟨h,i,none⟩),pc,rA,rc,nA,nc,hA,hc⟩ d g vA vs.length vc f l.length b] [CP f b l] ζ:=⟨M.B,M.H⟩;refine Gr (CK (Gs 11) 400 [false,false,false,false,true] [.code DH]).1 [(7,1)] ZJ [Cd ⟨iA,ic,sA,sc,(some ⟨h,i,none⟩),pc,rA,rc,nA,nc,hA,hc⟩ d g vA vs.length vc f l.length b,N (U j) [J 20,J (k:Int),J n,J e,J c,J r] 130,N (U j+1) [J 0,J 0] 47] K1 λw1 o=>?_;refine Fh o (mem:=[Cd ⟨iA,ic,sA,sc,(some ⟨h,i,none⟩),pc,rA,rc,nA,nc,hA,hc⟩ d g vA vs.length vc f l.length b,N (U j) [J 20,J (k:Int),J n,J e,J c,J r] 130,⟨h,i+k*1,[Y (d.pas.getD k default)],9,false⟩]) [0,1,2,3,4,5,6,7,8,9,10,11,12,13,14,15,16,17] [(3,0,5),(8,0,2),(10,1,1),(12,2,0),(14,1,4)] [⟨11,[(68,V (some ⟨h,i,none⟩) d.pas.length pc),(70,J (k:Int))],.pointer (some ⟨h,i+k*1,none⟩),true⟩,⟨15,[(63,V hA d.past.length hc),(72,Y (d.pas.getD k default)),(74,J c)],CY (Mx d.past (d.pas.getD k default) c),true⟩] [(18,2,0),(19,0,0)]
  (λx hx=>by
   simp only[mem_cons,not_mem_nil,or_false]at hx;rcases hx with rfl | rfl | rfl
   ·exact o.ent 0 rfl
   ·exact o.ent 1 rfl
   exact t _ o.B)
  (λsp p=>?_) λz w2 y=>?_
 ·simp only[mem_cons,not_mem_nil,or_false]at p;rcases p with rfl | rfl
  ·exact BR λ_ E u _=>BJ (sz:=1) (cap:=pc) 29 (.tmp 68) (.tmp 70) s Tryz.underlying29
  exact AU 104 [.tmp 63,.tmp 72,.tmp 74] _ (λ_=>by kernel_rfl) λ_ u hu=>AR hu (me hA hc d.past (d.pas.getD k default) c u (χ.past.below (o.B.trans (hu.mono o.B.size))) χ.pastL)
 refine AC xZ y [] λw3 q=>?_;exact AN q (2,0) (CY (Mx d.past (d.pas.getD k default) c)) ⟨rfl,q.B,(q.pk [0] [0] (M':=[Cd ⟨iA,ic,sA,sc,(some ⟨h,i,none⟩),pc,rA,rc,nA,nc,hA,hc⟩ d g vA vs.length vc f l.length b]) (L':=[CP f b l])).H⟩
def ACZ (kn:List (YX×Int×Int)):Prop:=∀p∈kn,ga p.2.1/\ga p.2.2
attribute [local irreducible] EE
def Ic:List Item:=(CK (λ_=>false) 400 [false,false,false,false,false] [.code DH]).2
def kY:List Item:=(CK (λ_=>false) 400 [false,true] (AD Ic)).2
def AAr:=Ψ kY
theorem mP {w:World} {m:HP} {d:EA} {g:Nat} {vA:Option Addr} {vs:List (Int×Int)} {vc:Nat} {h:Option Addr} {f:Nat} {l:List (Int×Int)} {ζ:List Th} {i:World} {a n e c r:Int} {b:Int×Int} (hl:l.length<=4294967296) (M:Ef w m d g vA vs vc h f (l++[b]) ζ i) :
  Calls Tryz.prog 66 ([Z g,D (FR (14,a,n,e,c,r))]:List Value).toArray i λk w'=>k=.returned (CY (SM b.1 b.2))/\Ef w m d g vA vs vc h f l ζ w':=by refine AS (fn:=Tryz.f66) (c:=DH) (n:=127) ?_;have y:Wk w i [Cd m d g vA vs.length vc h (l++[b]).length f] [CP h f (l++[b])] ζ:=⟨M.B,M.H⟩;refine Gr (CK (λ_=>false) 400 [false,false,false,false,false] [.code DH]).1 [(7,1)] Ic [Cd m d g vA vs.length vc h (l++[b]).length f,N (U i) [J 14,J a,J n,J e,J c,J r] 130,N (U i+1) [J 0,J 0] 47] y λw1 p=>?_;refine BL (Iw hl ⟨p.B,p.lend⟩) λk s t=>?_;obtain⟨rfl,o⟩:=t;refine⟨_,rfl,?_⟩;have x:=Wk.unlend o.B o.H;refine Gr (CK (λ_=>false) 400 [false,true] (AD Ic)).1 [(6,3),(80,1)] kY [Cd m d g vA vs.length vc h l.length f,N (U i) [J 14,J a,J n,J e,J c,J r] 130,N (U i+1) [J 0,J 0] 47,N (U s) (BD b) 47] x λq v=>?_;refine AW v (args:=[D (BD b)]) (qa b.1 b.2 q) λw4 u=>?_;refine Ar AAr u [(2,0)] λz j=>?_;exact AN j (2,0) (CY (SM b.1 b.2)) ⟨rfl,j.B,(j.pk [0] [0] (M':=[Cd m d g vA vs.length vc h l.length f]) (L':=[CP h f l])).H⟩
def kX:List Item:=(CK (λ_=>false) 400 [false,false,true] (AD Ic)).2
def AAq:=Ψ kX
theorem mO {w:World} {m:HP} {d:EA} {g:Nat} {vA:Option Addr} {vs:List (Int×Int)} {vc:Nat} {h:Option Addr} {f:Nat} {l:List (Int×Int)} {ζ:List Th} {i:World} {a n e c r:Int} {b:Int×Int} (hl:l.length<=4294967296) (M:Ef w m d g vA vs vc h f (l++[b]) ζ i) :
  Calls Tryz.prog 66 ([Z g,D (FR (15,a,n,e,c,r))]:List Value).toArray i λk w'=>k=.returned (CY ((D5 (b.1==0)).1,(D5 (b.1==0)).2,0))/\Ef w m d g vA vs vc h f l ζ w':=by refine AS (fn:=Tryz.f66) (c:=DH) (n:=127) ?_;have y:Wk w i [Cd m d g vA vs.length vc h (l++[b]).length f] [CP h f (l++[b])] ζ:=⟨M.B,M.H⟩;refine Gr (CK (λ_=>false) 400 [false,false,false,false,false] [.code DH]).1 [(7,1)] Ic [Cd m d g vA vs.length vc h (l++[b]).length f,N (U i) [J 15,J a,J n,J e,J c,J r] 130,N (U i+1) [J 0,J 0] 47] y λw1 p=>?_;refine BL (Iw hl ⟨p.B,p.lend⟩) λk s t=>?_;obtain⟨rfl,o⟩:=t;refine⟨_,rfl,?_⟩;have x:=Wk.unlend o.B o.H;refine Gr (CK (λ_=>false) 400 [false,false,true] (AD Ic)).1 [(6,3),(80,1),(105,3)] kX [Cd m d g vA vs.length vc h l.length f,N (U i) [J 15,J a,J n,J e,J c,J r] 130,N (U i+1) [J 0,J 0] 47,N (U s) (BD b) 47] x λq v=>?_;refine AW v (args:=[I (b.1==0)]) (KS (b.1==0) q) λw4 u=>?_;refine Ar AAq u [(2,0)] λz j=>?_;exact AN j (2,0) (CY ((D5 (b.1==0)).1,(D5 (b.1==0)).2,0)) ⟨rfl,j.B,(j.pk [0] [0] (M':=[Cd m d g vA vs.length vc h l.length f]) (L':=[CP h f l])).H⟩
def kW:List Item:=(CK (λ_=>false) 400 [false,false,false,true] (AD Ic)).2
def AAp:=Ψ kW
theorem Yo {w:World} {m:HP} {d:EA} {g:Nat} {vA:Option Addr} {vs:List (Int×Int)} {vc:Nat} {h:Option Addr} {f:Nat} {l:List (Int×Int)} {ζ:List Th} {i:World} {a n e c r:Int} {b:Int×Int} (hl:l.length<=4294967296) (M:Ef w m d g vA vs vc h f (l++[b]) ζ i) :
  Calls Tryz.prog 66 ([Z g,D (FR (18,a,n,e,c,r))]:List Value).toArray i λk w'=>k=.returned (CY (Ds b.1 b.2 n e r))/\Ef w m d g vA vs vc h f l ζ w':=by refine AS (fn:=Tryz.f66) (c:=DH) (n:=127) ?_;have y:Wk w i [Cd m d g vA vs.length vc h (l++[b]).length f] [CP h f (l++[b])] ζ:=⟨M.B,M.H⟩;refine Gr (CK (λ_=>false) 400 [false,false,false,false,false] [.code DH]).1 [(7,1)] Ic [Cd m d g vA vs.length vc h (l++[b]).length f,N (U i) [J 18,J a,J n,J e,J c,J r] 130,N (U i+1) [J 0,J 0] 47] y λw1 p=>?_;refine BL (Iw hl ⟨p.B,p.lend⟩) λk s t=>?_;obtain⟨rfl,o⟩:=t;refine⟨_,rfl,?_⟩;have x:=Wk.unlend o.B o.H;refine Gr (CK (λ_=>false) 400 [false,false,false,true] (AD Ic)).1 [(6,3),(80,1),(112,1),(114,1)] kW [Cd m d g vA vs.length vc h l.length f,N (U i) [J 18,J a,J n,J e,J c,J r] 130,N (U i+1) [J 0,J 0] 47,N (U s) (BD b) 47] x λq v=>?_;refine AW v (args:=[D (BD b),D [J n,J e],J r]) (RD b.1 b.2 n e r q) λw4 u=>?_;refine Ar AAp u [(2,0)] λz j=>?_;exact AN j (2,0) (CY (Ds b.1 b.2 n e r)) ⟨rfl,j.B,(j.pk [0] [0] (M':=[Cd m d g vA vs.length vc h l.length f]) (L':=[CP h f l])).H⟩
def uH:List Item:=(CK (Gs 15) 400 [true] (AD Ic)).2
def AE5:=Ω uH
theorem Yn {w:World} {m:HP} {d:EA} {g:Nat} {vA:Option Addr} {vs:List (Int×Int)} {vc:Nat} {h:Option Addr} {f:Nat} {l:List (Int×Int)} {ζ:List Th} {i:World} {a n e c r:Int} {b:Int×Int} {k:Nat} (ha:a=k) (y:k<d.scs.length) (χ:Jg w m d) (hl:l.length<=4294967296) (M:Ef w m d g vA vs vc h f (l++[b]) ζ i) :
  Calls Tryz.prog 66 ([Z g,D (FR (4,a,n,e,c,r))]:List Value).toArray i λen w'=>en=.returned (CY (Ix (d.scs.getD k default) b.1 b.2))/\Ef w m d g vA vs vc h f l ζ w':=by
 subst ha;obtain⟨iA,ic,sA,sc,pA,pc,rA,rc,nA,nc,hA,hc⟩:=m;obtain⟨j,o,rfl,s,t⟩:=rowsSc.all (A:=sA) χ.scs (by omega);obtain⟨A1,c1,hr,hx⟩:=t k _ (getD_some default y);have v:=χ.scsE _ (mem_of_getElem? (getD_some default y));refine AS (fn:=Tryz.f66) (c:=DH) (n:=127) ?_;have K1:Wk w i [Cd ⟨iA,ic,(some ⟨j,o,none⟩),sc,pA,pc,rA,rc,nA,nc,hA,hc⟩ d g vA vs.length vc h (l++[b]).length f] [CP h f (l++[b])] ζ:=⟨M.B,M.H⟩;refine Gr (CK (λ_=>false) 400 [false,false,false,false,false] [.code DH]).1 [(7,1)] Ic [Cd ⟨iA,ic,(some ⟨j,o,none⟩),sc,pA,pc,rA,rc,nA,nc,hA,hc⟩ d g vA vs.length vc h (l++[b]).length f,N (U i) [J 4,J (k:Int),J n,J e,J c,J r] 130,N (U i+1) [J 0,J 0] 47] K1 λw1 K2=>?_;refine BL (Iw hl ⟨K2.B,K2.lend⟩) λen w2 hh=>?_;obtain⟨rfl,M3⟩:=hh;refine⟨_,rfl,?_⟩;have K3:=Wk.unlend M3.B M3.H;refine Gr (CK (Gs 15) 400 [true] (AD Ic)).1 [(6,3),(80,1)] uH [Cd ⟨iA,ic,(some ⟨j,o,none⟩),sc,pA,pc,rA,rc,nA,nc,hA,hc⟩ d g vA vs.length vc h l.length f,N (U i) [J 4,J (k:Int),J n,J e,J c,J r] 130,N (U i+1) [J 0,J 0] 47,N (U w2) (BD b) 47] K3 λw3 p=>?_;refine Fh p (mem:=[Cd ⟨iA,ic,(some ⟨j,o,none⟩),sc,pA,pc,rA,rc,nA,nc,hA,hc⟩ d g vA vs.length vc h l.length f,N (U i) [J 4,J (k:Int),J n,J e,J c,J r] 130,N (U w2) (BD b) 47,⟨j,o+k*1,[V A1 (d.scs.getD k default).length c1],67,false⟩]) [0,1,2,3,4,5,6,7,8,9,10,11,12] [(4,0,1),(6,1,1),(8,3,0),(9,2,0)] [⟨7,[(88,V (some ⟨j,o,none⟩) d.scs.length sc),(90,J (k:Int))],.pointer (some ⟨j,o+k*1,none⟩),true⟩,⟨10,[(92,V A1 (d.scs.getD k default).length c1),(93,D (BD b))],CY (Ix (d.scs.getD k default) b.1 b.2),true⟩] [(13,2,0),(14,0,0)]
  (λx hx=>by
   simp only[mem_cons,not_mem_nil,or_false]at hx;rcases hx with rfl | rfl | rfl | rfl
   ·exact p.ent 0 rfl
   ·exact p.ent 1 rfl
   ·exact p.ent 3 rfl
   exact⟨Nat.lt_of_lt_of_le s p.B.size,Aj hr s p.B⟩)
  (λsp q=>?_) λz w4 K5=>?_
 ·simp only[mem_cons,not_mem_nil,or_false]at q;rcases q with rfl | rfl
  ·exact BR λ_ E u _=>BJ (sz:=1) (cap:=sc) 30 (.tmp 88) (.tmp 90) y Tryz.underlying30
  exact AU 105 [.tmp 92,.tmp 93] _ (λ_=>by kernel_rfl) λ_ u hu=>AR hu (Ys A1 c1 (d.scs.getD k default) b.1 b.2 u (Cn.below hx (p.B.trans (hu.mono p.B.size))) v)
 refine AC AE5 K5 [] λw5 K6=>?_;exact AN K6 (2,0) (CY (Ix (d.scs.getD k default) b.1 b.2)) ⟨rfl,K6.B,(K6.pk [0] [0] (M':=[Cd ⟨iA,ic,(some ⟨j,o,none⟩),sc,pA,pc,rA,rc,nA,nc,hA,hc⟩ d g vA vs.length vc h l.length f]) (L':=[CP h f l])).H⟩
def uG:=ν [.code DH]
def uF:=Ξ uG
def uE:=Ξ uF
def uD:=Ξ uE
def uC:=Ξ uD
def uB:=Ξ uC
def uA:=Ψ uB
def t8:=Ξ uA
def t7:=Ξ t8
def tz:=Ξ t7
def WR:=Ac 22 (AG tz)
def AE4:=Ω WR
theorem mN {w:World} {m:HP} {d:EA} {g:Nat} {vA:Option Addr} {vs:List (Int×Int)} {vc:Nat} {s:Option Addr} {q:Nat} {l:List (Int×Int)} {ζ:List Th} {p:World} {o a n e c r:Int} {b f:Int×Int} (h5:5<=o) (c0:o<=13) (hl:(l++[f]).length<=4294967296) (M:Ef w m d g vA vs vc s q (l++[f]++[b]) ζ p) :
  Calls Tryz.prog 66 ([Z g,D (FR (o,a,n,e,c,r))]:List Value).toArray p λen w'=>en=.returned (CY (DG o f.1 f.2 b.1 b.2))/\Ef w m d g vA vs vc s q l ζ w':=by
 have hb:∀k:Int,k<5\/13<k->(o==k)=true->False:=λk hk h=>by
  have:o=k:=by simpa using h
  omega
 refine AS (fn:=Tryz.f66) (c:=DH) (n:=127) ?_;have t:Wk w p [Cd m d g vA vs.length vc s (l++[f]++[b]).length q] [CP s q (l++[f]++[b])] ζ:=⟨M.B,M.H⟩;refine An uG [Cd m d g vA vs.length vc s (l++[f]++[b]).length q,N (U p) [J o,J a,J n,J e,J c,J r] 130,N (U p+1) [J 0,J 0] 47] t [(1,0)] λ_ t=>?_;refine AH (o==1) (λh=>(hb _ (by decide) h).elim) (λ_=>?_);refine AC uF t [] λw1 t=>?_;refine AH (o==2) (λh=>(hb _ (by decide) h).elim) (λ_=>?_);refine AC uE t [] λw1 t=>?_;refine AH (o==3) (λh=>(hb _ (by decide) h).elim) (λ_=>?_);refine AC uD t [] λw1 t=>?_;refine AH (o==19) (λh=>(hb _ (by decide) h).elim) (λ_=>?_);refine AC uC t [] λw1 t=>?_;refine AH (o==20) (λh=>(hb _ (by decide) h).elim) (λ_=>?_);refine AC uB t [] λw1 t=>?_;refine BL (Iw hl ⟨t.B,t.lend⟩) λen w2 hh=>?_;obtain⟨rfl,M3⟩:=hh;refine⟨_,rfl,?_⟩;have K3:=Wk.unlend M3.B M3.H;refine An uA [Cd m d g vA vs.length vc s (l++[f]).length q,N (U p) [J o,J a,J n,J e,J c,J r] 130,N (U p+1) [J 0,J 0] 47,N (U w2) (BD b) 47] K3 [(3,0),(1,0)] λ_ K4=>?_;refine AH (o==4) (λh=>(hb _ (by decide) h).elim) (λ_=>?_);refine AC t8 K4 [] λw3 K4=>?_;refine AH (o==14) (λh=>(hb _ (by decide) h).elim) (λ_=>?_);refine AC t7 K4 [] λw3 K4=>?_;refine AH (o==15) (λh=>(hb _ (by decide) h).elim) (λ_=>?_);refine AC tz K4 [] λw3 K4=>?_;refine AH (o==18) (λh=>(hb _ (by decide) h).elim) (λ_=>?_);refine Al 22 WR K4 [] λw3 K4=>?_;refine AX [(0,Z g),(3,Z (U p)),(4,Z (U p+1)),(6,Z (U w2))] λE4=>?_;refine DK (Ak WR) ([0,1,2,3,4].length+5) ?_;refine Sl (C:=λls _ u=>ls.size=10/\((ls.getD 3 false=false/\Wk w u [Cd m d g vA vs.length vc s (l++[f]).length q,N (U p) [J o,J a,J n,J e,J c,J r] 130,N (U p+1) [J 0,J 0] 47,N (U w2) (BD b) 47] [CP s q (l++[f])] ζ)\/(ls.getD 3 false=true/\Wk w u [Cd m d g vA vs.length vc s l.length q,N (U p) [J o,J a,J n,J e,J c,J r] 130,N (U p+1) [J 0,J 0] 47,N (U w2) (BD b) 47] [CP s q l] ζ))) (Ext:=λ_ _=>True) [0,1,2,3,4] [N (U p) [J o,J a,J n,J e,J c,J r] 130,N (U w2) (BD b) 47] [(1,0,0),(4,1,0)] [3] (λ_=>[]) (λ_ v _=>v=D (BD f)) 5 ⟨by kernel_rfl,.inl ⟨by kernel_rfl,K4.below (Below.refl _ _).drew⟩⟩ (λls _ u hu=>?_) (λ_=>trivial) (λ_ _ _ _ _=>trivial) (λ_ _ _ _ _ h=>h) (λj _ hj ls _ v u hu=>?_) (λj hj X ls u a0 b0 hC hf=>?_) (by kernel_rfl) (by intro _;kernel_rfl) (by intro _ _;kernel_rfl) (by intro _;kernel_rfl) λX u hC _ hf=>?_
 ·have hg:∀ {M0:List Ax} {L0:List Th} {x:Ax},Wk w u (x::M0) L0 ζ->∀y∈M0,y.good u:=λh y hy=>h.G y (mem_cons_of_mem _ hy);have hh:∀y∈([N (U p) [J o,J a,J n,J e,J c,J r] 130,N (U p+1) [J 0,J 0] 47,N (U w2) (BD b) 47]:List Ax),y.good u:=by rcases hu.2 with⟨_,h⟩ | ⟨_,h⟩<;>exact hg h
  intro y hy;simp only[mem_cons,not_mem_nil,or_false]at hy;rcases hy with rfl | rfl<;>exact hh _ (by simp)
 ·have h3:j≠3:=λe=>by subst e;cases hj
  refine⟨by rw[Array.size_setIfInBounds];exact hu.1,?_⟩;by_cases hb:j<ls.size
  ·rw[Ju hb,decide_eq_false h3,Bool.false_or];exact hu.2
  rw[show ls.setIfInBounds j true=ls by rw[Array.setIfInBounds,dif_neg hb]];exact hu.2
 ·obtain rfl:=mem_singleton.1 hj;have Ku:Wk w u [Cd m d g vA vs.length vc s (l++[f]).length q,N (U p) [J o,J a,J n,J e,J c,J r] 130,N (U p+1) [J 0,J 0] 47,N (U w2) (BD b) 47] [CP s q (l++[f])] ζ:=by
   rcases hC.2 with⟨_,h⟩ | ⟨h3,_⟩
   ·exact h
   rw[Ud h3]at a0;cases a0
  refine CF (args:=[Z g]) (xs:=[.tmp 121]) ((Iw (by rw[length_append]at hl;omega) ⟨Ku.B,Ku.lend⟩).mono λen w5 hh=>?_) rfl;obtain⟨rfl,M5⟩:=hh;exact⟨_,rfl,⟨by rw[Array.size_setIfInBounds];exact hC.1,.inr ⟨by rw[Ju (by rw[hC.1];decide)];rfl,Wk.unlend M5.B M5.H⟩⟩,trivial,rfl⟩
 have K5:Wk w u [Cd m d g vA vs.length vc s l.length q,N (U p) [J o,J a,J n,J e,J c,J r] 130,N (U p+1) [J 0,J 0] 47,N (U w2) (BD b) 47] [CP s q l] ζ:=by
  rcases hC.2 with⟨h,_⟩ | ⟨_,h⟩
  ·have h3:(List.foldl (λb i=>Array.setIfInBounds b i true) (Array.replicate ([0,1,2,3,4].length+5) false) [0,1,2,3,4]).getD 3 false=true:=by kernel_rfl
   exact absurd h (by rw[h3];decide)
  exact h
 have hX:X 3=D (BD f):=hf 3 (by decide) rfl;refine Bk [(4,Z (U p+1)),(120,J o),(122,X 3),(123,D (BD b))] λE5=>?_;rw[hX];refine GU 5 108 [.tmp 120,.tmp 122,.tmp 123] [J o,D (BD f),D (BD b)] ((XU o f.1 f.2 b.1 b.2 u).mono λen w5 hh=>?_);obtain⟨rfl,b5⟩:=hh;have K6:=K5.below b5;refine⟨_,rfl,bC (mem:=[]) (r:=2) K6 (Below.refl _ _) [6,7] [] [] (λe he=>by cases he) (λsp hs=>by cases hs) (by kernel_rfl) (by kernel_rfl) (by intro _;kernel_rfl) λw6 K7=>?_⟩;refine EL K7 [(8,2,0),(9,0,0)] (λ_=>[Cd m d g vA vs.length vc s l.length q,N (U p) [J o,J a,J n,J e,J c,J r] 130,N (U p+1) [J (DG o f.1 f.2 b.1 b.2).1,J (DG o f.1 f.2 b.1 b.2).2.1] 47,N (U w2) (BD b) 47]) λz w7 K8=>?_;refine AC AE4 K8 [] λw8 K9=>?_;exact AN K9 (2,0) (CY (DG o f.1 f.2 b.1 b.2)) ⟨rfl,K9.B,(K9.pk [0] [0] (M':=[Cd m d g vA vs.length vc s l.length q]) (L':=[CP s q l])).H⟩
end
end Go.Proofs.YtkpemkkbjfbmaaaGreat

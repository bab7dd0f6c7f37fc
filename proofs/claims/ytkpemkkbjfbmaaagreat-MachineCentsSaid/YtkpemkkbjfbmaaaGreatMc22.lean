/- Contracts of functions, part 22. -/
import Derived.Test.YtkpemkkbjfbmaaaGreatMc21
import Derived.Test.YtkpemkkbjfbmaaaGreatMc08
set_option linter.all false
namespace Go.Proofs.YtkpemkkbjfbmaaaGreat
open List
noncomputable section
open Go.RowKit
set_option maxRecDepth 100000
set_option maxHeartbeats 1000000
def MV (ds:List Df) (l:List Nat):Prop:=(∀j∈l,j<ds.length)/\l.length<=1000000
theorem LE {ds:List Df} {act:List Nat} (c:∀i∈act,i<ds.length):∀(es:List Ex) (a:Int) (r:List Nat),(∀j∈r,j<ds.length)->(∀j∈(DV ds act es a r).1,j<ds.length)/\(DV ds act es a r).1.length<=r.length+es.length
 | [],a,r,h=>by rw[DV];exact⟨λj b=>h j (Sy.1 (OD b)),by have:=OE (Gg r);rw[Lc]at this;simpa using this⟩
 | e::es,a,r,h=>by
  rw[DV,length_cons]
  cases hm:!(Az ds act e).2
  ·simp only[cond_false]
   cases BM (ds.getD (Az ds act e).1 default)
   ·have:=LE c es a r h;exact⟨this.1,by have:=this.2;simp only[cond_false];omega⟩
   have:=LE c es a (r++[(Az ds act e).1]) (λj b=>by
    rcases mem_append.1 b with b | b
    ·exact h j b
    rw[mem_singleton.1 b];exact Mt c hm)
   rw[length_append,length_singleton]at this;exact⟨this.1,by have:=this.2;simp only[cond_true];omega⟩
  exact⟨λj b=>(by cases b),Nat.zero_le _⟩
theorem mS {ds:List Df} {act:List Nat} {i:Nat} (a:∀i∈act,i<ds.length) (hi:i<ds.length) (hn:∀d∈ds,nE d.body<=1000000):MV ds (Cu ds act i).1:=by have h:=LE a (Bm [] ((ds.getD i default).body)) 0 [] (λj b=>by cases b);have c:=RF (ds.getD i default).body;have h2:=hn _ (DR hi);exact⟨h.1,by have:=h.2;simp only[length_nil]at this;exact Nat.le_trans this (by omega)⟩
theorem JC {ds:List Df} {p1:Int} (hn:∀d∈ds,nE d.body<=1000000):∀(es:List Nat) (a0:Int) (b:List Nat) (c:List (Nat×List Nat)),(∀i∈es,i<ds.length)->(∀i∈b,i<ds.length)->(∀p∈c,MV ds p.2)->
  (∀i∈(CA ds p1 es a0 b c).1,i<ds.length)/\(CA ds p1 es a0 b c).1.length<=b.length+es.length/\∀p∈(CA ds p1 es a0 b c).2.1,MV ds p.2
 | [],a0,b,c,_,h1,h2=>by rw[CA];exact⟨h1,Nat.le_refl _,h2⟩
 | e::es,a0,b,c,h0,h1,h2=>by
  have he:e<ds.length:=h0 e (by simp);have f:∀i∈es,i<ds.length:=λi hi=>h0 i (by simp[hi]);rw[CA,length_cons]
  cases !(BM (κ ds e))
  ·simp only[cond_false]
   cases !((Cu ds (As ds p1) e).2==0)
   ·have:=JC (p1:=p1) hn es a0 (b++[e]) ((e,(Cu ds (As ds p1) e).1)::c) f (λj a=>by
     rcases mem_append.1 a with a | a
     ·exact h1 j a
     ·rw[mem_singleton.1 a];exact he) (λp g=>by
     rcases mem_cons.1 g with rfl | g
     ·exact mS Fp he hn
     exact h2 p g)
    simp only[length_append,length_singleton]at this;exact⟨this.1,by have:=this.2.1;simp only[cond_false];omega,this.2.2⟩
   exact⟨λj a=>(by cases a),Nat.zero_le _,λj a=>(by cases a)⟩
  have:=JC (p1:=p1) hn es a0 b c f h1 h2;exact⟨this.1,by have:=this.2.1;simp only[cond_true];omega,this.2.2⟩
theorem N1 {n:List UInt8} {ds:List Df} {p1:Int} (hn:∀d∈ds,nE d.body<=1000000):(∀i∈(Bj n ds p1).1,i<ds.length)/\(Bj n ds p1).1.length<=ds.length/\∀p∈(Bj n ds p1).2.1,MV ds p.2:=by
 unfold Bj
 cases !(Ee n ds p1==0)
 ·have:=JC (p1:=p1) hn (As ds p1) 0 [] [] Fp (λj a=>by cases a) (λj a=>by cases a);have hl:=L4 (ds:=ds) (p1:=p1);exact⟨this.1,by have:=this.2.1;simp only[length_nil]at this;exact Nat.le_trans this (by omega),this.2.2⟩
 exact⟨λj a=>(by cases a),Nat.zero_le _,λj a=>(by cases a)⟩
theorem N3 {β:Type} {P:β->Prop} {d:β} (hd:P d):∀(m:List (Nat×β)) (i:Nat),(∀p∈m,P p.2)->P ((Bf m i).getD d)
 | [],_,_=>hd
 | p::m,i,h=>by
  rw[Bf];by_cases hp:p.1=i
  ·rw[if_pos hp];exact h p (by simp)
  rw[if_neg hp];exact N3 hd m i λq a=>h q (by simp[a])
theorem Nv {nodes:List Nat} {ns:List (Nat×List Nat)}:∀(k:Nat) (r:List Nat) (ml:List (Nat×Bool)),(∀i∈r,i∈nodes)->r.length<=nodes.length->(∀i∈(Hi nodes ns k r ml).1,i∈nodes)/\(Hi nodes ns k r ml).1.length<=nodes.length
 | 0,r,ml,h,hl=>⟨h,hl⟩
 | k+1,r,ml,h,hl=>by
  rw[Hi]
  cases hc:decide ((r.length:Int)<(nodes.length:Int))
  ·exact⟨h,hl⟩
  simp only[cond_true];have hc:=of_decide_eq_true hc
  cases hx:decide (CX (DQ ml ns) nodes<0)
  ·exact Nv k _ _ (λi hi=>by
    rcases mem_append.1 hi with hi | hi
    ·exact h i hi
    rw[mem_singleton.1 hi];exact DR (LM hx).2) (by rw[length_append,length_singleton];omega)
  exact⟨λj a=>(by cases a),Nat.zero_le _⟩
def BC (n:List UInt8) (ds:List Df) (p1:Int):List Nat×Int:=cond (!((Bj n ds p1).2.2==0)) ([],(Bj n ds p1).2.2) (GI (Bj n ds p1).1 (Bj n ds p1).2.1)
theorem FM {n:List UInt8} {ds:List Df} {p1:Int} (hn:∀d∈ds,nE d.body<=1000000):(∀i∈(BC n ds p1).1,i<ds.length)/\(BC n ds p1).1.length<=ds.length:=by
 unfold BC;have h:=N1 (n:=n) (p1:=p1) hn
 cases !((Bj n ds p1).2.2==0)
 ·have h2:=Nv (nodes:=(Bj n ds p1).1) (ns:=(Bj n ds p1).2.1) ((Bj n ds p1).1.length+1) [] [] (λj a=>(by cases a)) (Nat.zero_le _);exact⟨λi hi=>h.1 i (h2.1 i hi),Nat.le_trans h2.2 h.2.1⟩
 exact⟨λj a=>(by cases a),Nat.zero_le _⟩
noncomputable def YC:Code:=Tryz.f26.body.getD .skip
def fC:=ν ([.code YC])
def fB:=Ψ fC
def AHs:=Ξ fB
theorem oY (f:List UInt8) (a:Option Addr) (ds:List (Df)) (b:Nat) (p1:Int) (w:World) (b0:rowsDf w a ds) (k:ds.length<=4294967296) (hs:f.length<=4294967296) (ht:∀d∈ds,Ii d) (a0:∀d∈ds,EB d.body) (hn:∀d∈ds,nE d.body<=1000000):Calls Tryz.prog 26 ([D [Y f,V a ds.length b],J p1]:List Value).toArray w λe w'=>∃(p:Option Addr) (o:Nat),e=.returned (.tuple #[V p (BC f ds p1).1.length o,J (BC f ds p1).2])/\Below (U w) w w'/\AY (U w) w' [Bc p o (BC f ds p1).1]:=by
 refine Is (args:=[D [Y f,V a ds.length b],J p1]) (fn:=Tryz.f26) (c:=YC) (n:=21) ?_;have B:Below (U w) w w:=Below.refl _ _;have H:AY (U w) w (List.map Th.ent []++[]):=AY.nil (Nat.le_refl _);refine Cp 60 ([.code YC]) (U w) [] [(0,0)] fC [(1,J p1),(2,Z (U w)),(9,D [Y f,V a ds.length b]),(10,J p1)] (U w+1) [N (U w) [Y f,V a ds.length b] 27] (H.lies (M:=[])) λw1 E1 g0 d0=>?_;replace B:=B.trans (H.keptB (M:=[]) d0);replace H:AY (U w) w1 (List.map Th.ent [N (U w) [Y f,V a ds.length b] 27]++[]):=H.run (M:=[]) (M':=[N (U w) [Y f,V a ds.length b] 27]) g0 d0 rfl;refine MP 53 [.tmp 9,.tmp 10] (some 11) [D [Y f,V a ds.length b],J p1] (by kernel_rfl) (by kernel_rfl) (by kernel_rfl) ((XP f a ds b p1 w1 (b0.below B) k hs ht a0 hn).mono λen h hh=>?_);have q:=N1 (n:=f) (p1:=p1) hn;have hO:BC f ds p1=_:=rfl;rw[show BC f ds p1=cond (!((Bj f ds p1).2.2==0)) ([],(Bj f ds p1).2.2) (GI (Bj f ds p1).1 (Bj f ds p1).2.1)from rfl];clear hO;generalize Bj f ds p1=g at hh q ⊢;obtain⟨nodes,ns,x⟩:=g;rcases hh with⟨rA,rc,l,m,rfl,t,b2,h0,Hn⟩ | ⟨rfl,h0,b2⟩
 ·replace t:m.map JP=ns:=t;obtain rfl:x=0:=h0;replace Hn:AY (U w1) h [Bc rA rc nodes,Ag.th LI l (m.map Lj),IA m]:=Hn;refine⟨_,rfl,?_⟩;replace H:AY (U w) h (List.map Th.ent [N (U w) [Y f,V a ds.length b] 27]++[Bc rA rc nodes,Ag.th LI l (m.map Lj),IA m]):=H.join b2 Hn;replace B:=B.trans (b2.mono B.size);refine Cp 60 (AD fC) (U h) _ [(1,0)] fB [(6,Z (U h)),(7,J 0),(15,I (!((0:Int)==0)))] (U h+1) [N (U w) [Y f,V a ds.length b] 27,N (U h) [V rA nodes.length rc,.map (some l)] 122] (H.lies (M:=[N (U w) [Y f,V a ds.length b] 27])) λz E3 v s=>?_;replace B:=B.trans (H.keptB (M:=[N (U w) [Y f,V a ds.length b] 27]) s);replace H:AY (U w) z (List.map Th.ent [N (U w) [Y f,V a ds.length b] 27,N (U h) [V rA nodes.length rc,.map (some l)] 122]++[Bc rA rc nodes,Ag.th LI l (m.map Lj),IA m]):=H.run (M:=[N (U w) [Y f,V a ds.length b] 27]) (M':=[N (U w) [Y f,V a ds.length b] 27,N (U h) [V rA nodes.length rc,.map (some l)] 122]) v s rfl;refine D9 (!((0:Int)==0)) (λy=>?_) (λy=>?_)
  ·exact absurd y (by decide)
  refine Cp 60 (AG fB) (U z) _ [(1,0)] AHs [(17,D [V rA nodes.length rc,.map (some l)])] (U z) [N (U w) [Y f,V a ds.length b] 27,N (U h) [V rA nodes.length rc,.map (some l)] 122] (H.lies (M:=[N (U w) [Y f,V a ds.length b] 27,N (U h) [V rA nodes.length rc,.map (some l)] 122])) λw4 E4 e0 c0=>?_;replace B:=B.trans (H.keptB (M:=[N (U w) [Y f,V a ds.length b] 27,N (U h) [V rA nodes.length rc,.map (some l)] 122]) c0);replace H:AY (U w) w4 (List.map Th.ent [N (U w) [Y f,V a ds.length b] 27,N (U h) [V rA nodes.length rc,.map (some l)] 122]++[Bc rA rc nodes,Ag.th LI l (m.map Lj),IA m]):=H.run (M:=[N (U w) [Y f,V a ds.length b] 27,N (U h) [V rA nodes.length rc,.map (some l)] 122]) (M':=[N (U w) [Y f,V a ds.length b] 27,N (U h) [V rA nodes.length rc,.map (some l)] 122]) e0 c0 rfl;subst t;refine MP 54 [.tmp 17] (some 18) [D [V rA nodes.length rc,.map (some l)]] (by kernel_rfl) (by kernel_rfl) (by kernel_rfl) ((mL rA nodes rc l m w4 (H.rowsNat 2 rfl) (Nat.le_trans q.2.1 k) (H.all 3 _ rfl) (H.all 4 _ rfl) (λj u=>Nat.le_trans (Nat.le_of_lt (q.1 j u)) k) (λi=>⟨λj u=>?_,?_⟩)).mono λen w5 hh=>?_)
  ·exact Nat.le_trans (Nat.le_of_lt ((N3 (P:=MV ds) ⟨λj u=>(by cases u),Nat.zero_le _⟩ _ i q.2.2).1 j u)) k
  ·exact Nat.le_trans (N3 (P:=MV ds) ⟨λj u=>(by cases u),Nat.zero_le _⟩ _ i q.2.2).2 (by decide)
  obtain⟨p,o,rfl,b5,Hr⟩:=hh;refine⟨_,rfl,?_⟩;replace B:=B.trans (b5.mono B.size);refine FU (fn:=Tryz.f26) 60 (.tuple #[V p (GI nodes (m.map JP)).1.length o,J (GI nodes (m.map JP)).2]) λwz Bz=>⟨p,o,rfl,B.trans (Bz.mono B.size),(Hr.below Bz).mono H.base⟩
 skip
 replace h0:¬x=0:=h0;refine⟨_,rfl,?_⟩;replace H:AY (U w) h (List.map Th.ent [N (U w) [Y f,V a ds.length b] 27]++[]):=H.below b2;replace B:=B.trans (b2.mono B.size);refine Cp 60 (AD fC) (U h) _ [(1,0)] fB [(6,Z (U h)),(7,J x),(15,I (!((x:Int)==0)))] (U h+1) [N (U w) [Y f,V a ds.length b] 27,N (U h) [V none 0 0,.map none] 122] (H.lies (M:=[N (U w) [Y f,V a ds.length b] 27])) λz E3 v s=>?_;replace B:=B.trans (H.keptB (M:=[N (U w) [Y f,V a ds.length b] 27]) s);replace H:AY (U w) z (List.map Th.ent [N (U w) [Y f,V a ds.length b] 27,N (U h) [V none 0 0,.map none] 122]++[]):=H.run (M:=[N (U w) [Y f,V a ds.length b] 27]) (M':=[N (U w) [Y f,V a ds.length b] 27,N (U h) [V none 0 0,.map none] 122]) v s rfl;refine D9 (!((x:Int)==0)) (λy=>?_) (λy=>?_)
 ·replace H:=H.addNil 3 1 (λe r=>r=F7 e);rw[y];refine FU (fn:=Tryz.f26) 60 (.tuple #[V none 0 0,J x]) λwz Bz=>⟨none,0,rfl,B.trans (Bz.mono B.size),(H.below Bz).pick [2] rfl (by decide)⟩
 simp[h0]at y
abbrev ON:=List UInt8×Bool×Int×Int×Int×List AM×Option Addr×Nat
abbrev DY:=List UInt8×Bool×Int×Int×Int×List AM
abbrev S2 (x:ON):List Value:=[Y (x.1),I x.2.1,J x.2.2.1,J x.2.2.2.1,J x.2.2.2.2.1,V x.2.2.2.2.2.2.1 x.2.2.2.2.2.1.length x.2.2.2.2.2.2.2]
abbrev Nl (x:ON):Th:=Cw x.2.2.2.2.2.2.1 x.2.2.2.2.2.2.2 x.2.2.2.2.2.1
abbrev ZQ (x:ON):DY:=(x.1,x.2.1,x.2.2.1,x.2.2.2.1,x.2.2.2.2.1,x.2.2.2.2.2.1)
abbrev Im (A:Option Addr) (c:Nat) (xs:List ON):Th:=Th.row 50 6 (λe r=>r=S2 e) A c xs
abbrev Ge (xs:List ON):Th:=Th.all (xs.map Nl)
theorem AY.box {α:Type} {b:Nat} {w:World} {g n c:Nat} {cs:List Value} {T m:TypeId} {a:α->List Value->Prop} {A:Option Addr} {l:List α} (h:AY b w [Th.ent ⟨g,0,cs,T,true⟩]) (h2:AY b w [Th.row m n a A c l]) (o:T≠m):AY b w [Th.ent ⟨g,0,cs,T,true⟩,Th.row m n a A c l]:=by
 have hg:Ax.good w ⟨g,0,cs,T,true⟩:=h.all 0 _ rfl;obtain⟨rs,hr,ho⟩:(Th.row m n a A c l).P w:=h2.all 0 _ rfl;have hx:A≠θ g:=λhA=>by
  rcases ho.2 with⟨p,_⟩ | ⟨x,cap,v,p,hb,u⟩
  ·injection p with e1
   rw[hA]at e1
   cases e1
  injection p with e1
  rw[hA]at e1;injection e1 with e1
  injection e1 with e1
  subst e1;have r:=hg.2;rw[if_pos rfl]at r;have f:=u.1;rw[r.1]at f;injection f with f
  injection f with _ h6 _
  exact o h6
 refine⟨h.base,λi t ht=>?_,λi t ht=>?_,λi j s t hs ht e k q d=>?_⟩
 ·match i,ht with
  | 0,ht=>obtain rfl:=Option.some.inj ht;exact h.all 0 _ rfl
  | 1,ht=>obtain rfl:=Option.some.inj ht;exact h2.all 0 _ rfl
  | i+2,ht=>simp at ht
 ·match i,ht with
  | 0,ht=>obtain rfl:=Option.some.inj ht;exact h.lo 0 _ rfl
  | 1,ht=>obtain rfl:=Option.some.inj ht;exact h2.lo 0 _ rfl
  | i+2,ht=>simp at ht
 match i,j,hs,ht with
 | 0,0,_,_=>exact e rfl
 | 1,1,_,_=>exact e rfl
 | 0,1,hs,ht=>
  obtain rfl:=Option.some.inj hs;obtain rfl:=Option.some.inj ht;obtain rfl:k=g:=q;exact hx d
 | 1,0,hs,ht=>
  obtain rfl:=Option.some.inj hs;obtain rfl:=Option.some.inj ht;obtain rfl:k=g:=d;exact hx q
 | i+2,_,hs,_=>simp at hs
 | _,j+2,_,ht=>simp at ht
theorem JD {ds:List Df} {p1:Int}:∀(es:List Nat) (a0:Int) (a:List Nat) (b:List (Nat×List Nat)),(∀i∈a,BM (κ ds i)=true)->∀i∈(CA ds p1 es a0 a b).1,BM (κ ds i)=true
 | [],a0,a,b,h=>by rw[CA];exact h
 | e::es,a0,a,b,h=>by
  rw[CA]
  cases hc:BM (κ ds e)
  ·exact JD es a0 a b h
  simp only[Bool.not_true,cond_false]
  cases !((Cu ds (As ds p1) e).2==0)
  ·exact JD es a0 (a++[e]) _ (λi hi=>by
    rcases mem_append.1 hi with hi | hi
    ·exact h i hi
    rw[mem_singleton.1 hi];exact hc)
  exact λi hi=>(by cases hi)
theorem XQ {n:List UInt8} {ds:List Df} {p1:Int}:∀i∈(Bj n ds p1).1,BM (κ ds i)=true:=by
 unfold Bj
 cases !(Ee n ds p1==0)
 ·exact JD _ _ _ _ (λi hi=>by cases hi)
 exact λi hi=>(by cases hi)
theorem oZ {n:List UInt8} {ds:List Df} {p1:Int}:∀i∈(BC n ds p1).1,BM (κ ds i)=true:=by
 unfold BC
 cases !((Bj n ds p1).2.2==0)
 ·exact λi hi=>XQ i ((Nv (nodes:=(Bj n ds p1).1) (ns:=(Bj n ds p1).2.1) ((Bj n ds p1).1.length+1) [] [] (λj a=>(by cases a)) (Nat.zero_le _)).1 i hi)
 exact λi hi=>(by cases hi)
theorem Na:∀ {ds:List Df},EC ds=true->∀d∈ds,Ej d=true
 | [],_,d,hd=>by cases hd
 | e::ds,h,d,hd=>by
  rw[EC]at h
  cases h1:!(Tk.isName e.name)
  ·rw[h1]at h
   cases h2:Ej e
   ·rw[h2]at h;cases h
   rw[h2]at h;rcases mem_cons.1 hd with rfl | hd
   ·exact h2
   exact Na h d hd
  rw[h1]at h;cases h
theorem bH {n:List UInt8} {ds:List Df} (h:Er n ds=true):∀d∈ds,Ej d=true:=by
 unfold Er at h
 revert h
 cases cond (!(Tk.isName n)) true (decide (128<(ds.length:Int)))<;>intro h
 ·exact Na h
 cases h
theorem Fs {a b:Bool} (h:cond a b false=true):a=true/\b=true:=by
 cases a
 ·cases h
 exact⟨rfl,h⟩
theorem Tq {d:Df} (h:Ej d=true) (hc:BM d=true):Ft d.body 32=true:=by
 unfold Ej at h;generalize d.body=x at h ⊢
 cases x with
 | mk op num den mu hu du nm cnt md kids=>
  simp only[]at h;unfold C2 at h;unfold BM at hc;have a:d.kind=3\/d.kind=4:=by
   cases h3:(d.kind==3)
   ·rw[h3]at hc;exact .inr (eq_of_beq hc)
   exact .inl (eq_of_beq h3)
  rcases a with a | a
  ·rw[a]at h;have h:=(Fs (show cond _ _ false=true from h)).1;have h:=(Fs h).1;exact(Fs h).2
  rw[a]at h;have h:=(Fs (show cond _ _ false=true from h)).1;have h:=(Fs h).1;exact(Fs h).2
theorem gH {n:List UInt8} {ds:List Df} {p1:Int} (hv:(!(Er n ds))=false) (a:∀d∈ds,EB d.body) (hn:∀d∈ds,nE d.body<=1000000) {i:Nat} (hi:i∈(BC n ds p1).1):DP (κ ds i).body.height (κ ds i).body:=by
 have hm:=DR ((FM (n:=n) (p1:=p1) hn).1 i hi);have b:Er n ds=true:=by cases h:Er n ds with
  | true=>rfl
  | false=>rw[h]at hv;cases hv
 exact⟨Nat.le_refl _,⟨32,Tq (bH b _ hm) (oZ i hi)⟩,a _ hm⟩
theorem Fx {ds:List Df}:∀(es:List Nat) (a:List (List UInt8)) (b:List (List (Int×Int×Int))) (c:List (List UInt8)) (d e f:List (List UInt8×Int)),(CE ds es a b c d e f).2.2.2.2.2.2=[]
 | [],_,_,_,_,_,_=>by rw[CE]
 | x::es,a,b,c,d,e,f=>by
  rw[CE]
  cases (κ ds x).kind==1
  ·cases (κ ds x).kind==2
   ·cases (κ ds x).kind==5
    ·exact Fx es _ _ _ _ _ _
    exact Fx es _ _ _ _ _ _
   exact Fx es _ _ _ _ _ _
  exact Fx es _ _ _ _ _ _
theorem Tg {n:List UInt8} {ds:List Df} {p1:Int}:(AA n ds p1).2.2.2.2.2.2.length=0:=by unfold AA;rw[Fx];rfl
def MT (T:TypeId) (cs:List (List Value)) (g i:Nat) (u:World):Prop:=∃(j:Nat) (c:List Value),i<=j/\cs[j]?=some c/\Ax.good u ⟨g,0,c,T,true⟩
structure F8 (T:TypeId) (cs:List (List Value)) (g:Nat) (w u:World):Prop where
 but:CU g w u
 up:∀i,MT T cs g i w->MT T cs g i u
theorem F8.refl {T:TypeId} {cs:List (List Value)} {g:Nat} (w:World):F8 T cs g w w:=⟨CU.refl _ _,λ_ h=>h⟩
theorem F8.trans {T:TypeId} {cs:List (List Value)} {g:Nat} (a b c:World) (h:F8 T cs g a b) (k:F8 T cs g b c):F8 T cs g a c:=⟨h.but.trans k.but,λi x=>k.up i (h.up i x)⟩
def OP (T:TypeId) (cs:List (List Value)) (g:Nat) (w u:World):Prop:=CU g w u/\MT T cs g 0 u
theorem OP.start {T:TypeId} {cs:List (List Value)} {g:Nat} {c:List Value} {w:World} (h:Ax.good w ⟨g,0,c,T,true⟩) (hc:cs[0]?=some c):OP T cs g w w.drew:=
 ⟨.of_below (Below.refl _ _).drew,0,c,Nat.le_refl _,hc,FT h (Nat.le_refl _) rfl⟩
theorem Xh {g:Nat} {w u:World} {e:Ax} (h:e.good w) (b:CU g w u) (a:e.id≠g):e.good u:=FT h b.size (b.block _ h.1 a)
theorem mF {g k o:Nat} {w u:World} {cs:List Value} (h:w.rangeAt k o cs) (c:k<(U w)) (b:CU g w u) (a:k≠g):u.rangeAt k o cs:=λj v hv=>(World.cell?_of_block (b.block _ c a)).trans (h j v hv)
theorem mq {g:Nat} {u:World} {c d:List Value} {T:TypeId} (h:Ax.good u ⟨g,0,c,T,true⟩) (k:Ax.good u ⟨g,0,d,T,true⟩):c=d:=by
 have b:=h.2;have a:=k.2;rw[if_pos rfl]at b a;have:=b.1.symm.trans a.1;injection this with this
 injection this with this
 exact congrArg Array.toList this
def Gz (off:Nat) (vs:List Value) (c:List Value):List Value:=c.take off++vs++c.drop (off+vs.length)
theorem ET {T:TypeId} {cs:List (List Value)} {g i:Nat} {u a:World} (f:List Value->List Value) (hf:∀j c,i<=j+1->cs[j]?=some c->cs[max i j]?=some (f c)) {j:Nat} {c h:List Value} (e:i<=j+1) (hc:cs[j]?=some c) (hg:Ax.good u ⟨g,0,c,T,true⟩)
  (b:CU g u a) (hn:Ax.good a ⟨g,0,h,T,true⟩) (h2:h=f c):F8 T cs g u a/\MT T cs g i a:=by
 subst h2;refine⟨⟨b,λl ⟨d,n,m,h2,k⟩=>?_⟩,max i j,f c,Nat.le_max_left _ _,hf j c e hc,hn⟩;obtain rfl:=mq hg k;by_cases hx:i<=d+1
 ·exact⟨max i d,f c,by omega,hf d c hx h2,hn⟩
 exact⟨max i j,f c,by omega,hf j c e hc,hn⟩
theorem AL.storeH {P:Program} {o:Oper} {ρ:Operand->Value} {w:World} {K:Value->World->Prop} (e e':Ax) (hint:Nat×Nat) (hg:e.good w) (d:∀w',e'.good w'->CU e.id w w'->K undef w') (he:(Ce P (execOp ρ o) ⟨U w,[e],hint,[]⟩).map (λp=>(EK p.1,p.2.mem,p.2.sz,p.2.eqs.map Prod.fst))=(Ce P (execOp ρ o) ⟨U w,[e],hint,[]⟩).map (λp=>(some undef,[e'],U w,p.2.eqs.map Prod.snd)):=by kernel_rfl) (hs:(Ce P (execOp ρ o) ⟨U w,[e],hint,[]⟩).isSome=true:=by kernel_rfl):AL P o ρ w K:=by
 have g:=MF w [e] (λx hx=>by rw[mem_singleton.1 hx];exact hg) (by simp)
 cases hm:Ce P (execOp ρ o) ⟨U w,[e],hint,[]⟩with
 | none=>rw[hm]at hs;cases hs
 | some p=>
  obtain⟨r,b⟩:=p;rw[hm]at he;simp only[Option.map_some,Option.some.injEq,Prod.mk.injEq]at he;obtain⟨h,h2,j,i⟩:=he;refine AL.runsK ⟨U w,[e],hint,[]⟩ b r undef (hm:=hm) ?_ ⟨g.sat,g.le,g.own⟩ i λw' f a=>d w' ?_ ⟨a.os,a.tape,a.output,a.size,λk d c=>a.block k d (by simpa using c)⟩
  ·cases r<;>simp[EK]at h
   ·exact .inl (by rw[h])
   exact .inr ⟨rfl,rfl⟩
  exact f.sat.good e' (by rw[h2];simp)
theorem AY.staged {T:TypeId} {cs:List (List Value)} {b g:Nat} {w u:World} {L:List Th} {c f:List Value} (h:AY b w L) (i:Nat) (hi:L[i]?=some (Th.ent ⟨g,0,c,T,true⟩)) (hb:CU g w u) (l:MT T cs g (cs.length-1) u) (hc:cs[cs.length-1]?=some f):AY b u (L.set i (Th.ent ⟨g,0,f,T,true⟩)):=by
 obtain⟨j,n,m,h2,e⟩:=l;have hl:=(List.getElem?_eq_some_iff.1 h2).1;obtain rfl:j=cs.length-1:=by omega
 obtain rfl:=Option.some.inj (hc.symm.trans h2);exact h.set i hi hb.size e (λk a=>⟨by rw[show k=g from a];exact e.1,.inl a⟩) λk a d=>hb.block k a d
set_option linter.unusedSectionVars false
section
variable {α β:Type} [DecidableEq α] (S:Ag α β) {b:Nat} {w:World} {L:List Th} {ρ:Operand->Value}
end
theorem AC0 {γ:Type} {P:Program} {f:FuncId} {R:Ending->World->Prop} {n:Nat} {todo:List Item} {E:Nat->Value} {w0 w:World} {M:List Ax} {L T:List Th} (K:Wk w0 w M L T) {mem:List Ax} (d j:Nat) (m:List Nat) (a:Nat) (o:Nat->Value) (l:TypeId) (zero:List Value) (hints:List (Nat×Nat×Nat)) (specs:List Sp) (i:Nat) (t:γ->Value) (L':γ->List Th) (ts:List (Nat×Nat×Nat)) (M':Nat->γ->List Ax)
  (hM:∀e∈mem,e.good w) (hS:∀v,Below (U w) w v->∀sp∈specs,F1 P n (Below (U v) v) (Ay (Ak todo) d j) sp)
  (h:∀u g,Wk w0 u (M++[⟨g,0,zero,l,true⟩]) L T->∃x s,(execOp (BK n (A8 (DW P n (Ay (Ak todo) d j) mem hints specs m E) (C6 (Ay (Ak todo) d j) a) (o g))) ((Ay (Ak todo) d j).getD i default)).run P u=.ok (.value (t x)) s/\Wk w0 s (M++[⟨g,0,zero,l,true⟩]) (L' x) T)
  (hk:∀g x z w',Wk w0 w' (M' g x) (L' x) T->At P f R (AO todo) (Fr n (((EH P n (Ay (Ak todo) d j) ts (A8 (A8 (DW P n (Ay (Ak todo) d j) mem hints specs m E) (C6 (Ay (Ak todo) d j) a) (o g)) ((Ay (Ak todo) d j).getD i default).dst (t x)) (M++[⟨g,0,zero,l,true⟩]) z).map (·.1)).getD E)) w')
  (hw:QG .any (Ak todo) 4 d j=true:=by kernel_rfl) (hd:(GB todo).isSome=true:=by kernel_rfl) (hmo:P.follows .mixedOrders=true:=by kernel_rfl)
  (hok:(F4 .any (Ay (Ak todo) d j) (Dk (Ay (Ak todo) d j) (m++[a])) (Array.replicate (Ay (Ak todo) d j).size false) n (FH P n (Ay (Ak todo) d j) mem hints specs m E++[Mv w a (Eu (Ay (Ak todo) d j) m a) o l zero])&&It (Ay (Ak todo) d j) (FH P n (Ay (Ak todo) d j) mem hints specs m E++[Mv w a (Eu (Ay (Ak todo) d j) m a) o l zero]),m.all (GN P n (Ay (Ak todo) d j) mem hints specs m E),Nat.beq (m.length+1+(ts.length+1)) (Ay (Ak todo) d j).size,gb (Ay (Ak todo) d j) m a)=(true,true,true,true):=by kernel_rfl)
  (hrd:(Region.ready .any (Ay (Ak todo) d j) ((m++[a]).foldl (λb i=>b.setIfInBounds i true) (Array.replicate (Ay (Ak todo) d j).size false)),Nat.blt i (Ay (Ak todo) d j).size,((Ay (Ak todo) d j).getD i default).guard,Jq (Ay (Ak todo) d j) .any (((m++[a]).foldl (λb i=>b.setIfInBounds i true) (Array.replicate (Ay (Ak todo) d j).size false)).setIfInBounds i true) (ts.map (·.1)))=([i],true,none,true):=by kernel_rfl)
  (ha:∀z,(Ce P (execOp (BK n (Ew P n (Ay (Ak todo) d j) mem hints specs m E a)) ((Ay (Ak todo) d j).getD a default)) ⟨z,[],(0,0),[]⟩).map (λr=>(EK r.1,r.2.mem,r.2.eqs))=some (some (o z),[⟨z,0,zero,l,true⟩],[]):=by intro _;kernel_rfl)
  (hpa:∀X,((Ay (Ak todo) d j).getD a default).op.operands.toList.map (NP P n (Ay (Ak todo) d j) mem hints specs m E X a)=((Ay (Ak todo) d j).getD a default).op.operands.toList.map (BK n (Ew P n (Ay (Ak todo) d j) mem hints specs m E a)):=by intro _;kernel_rfl)
  (hp:∀X,Li P n (Ay (Ak todo) d j) mem hints specs m E X=JH P n (Ay (Ak todo) d j) mem hints specs m E:=by intro _;kernel_rfl)
  (ht:∀g x z,(EH P n (Ay (Ak todo) d j) ts (A8 (A8 (DW P n (Ay (Ak todo) d j) mem hints specs m E) (C6 (Ay (Ak todo) d j) a) (o g)) ((Ay (Ak todo) d j).getD i default).dst (t x)) (M++[⟨g,0,zero,l,true⟩]) z).map (λq=>(q.2.1,q.2.2.2.map Prod.fst))=(EH P n (Ay (Ak todo) d j) ts (A8 (A8 (DW P n (Ay (Ak todo) d j) mem hints specs m E) (C6 (Ay (Ak todo) d j) a) (o g)) ((Ay (Ak todo) d j).getD i default).dst (t x)) (M++[⟨g,0,zero,l,true⟩]) z).map (λq=>(M' g x,q.2.2.2.map Prod.snd)):=by intro _ _ _;kernel_rfl)
  (hs:∀g x z,(EH P n (Ay (Ak todo) d j) ts (A8 (A8 (DW P n (Ay (Ak todo) d j) mem hints specs m E) (C6 (Ay (Ak todo) d j) a) (o g)) ((Ay (Ak todo) d j).getD i default).dst (t x)) (M++[⟨g,0,zero,l,true⟩]) z).isSome=true:=by intro _ _ _;kernel_rfl):At P f R todo (Fr n E) w:=by
 simp only[Prod.mk.injEq]at hrd;obtain⟨c1,c2,c3,c4⟩:=hrd;rw[Nat.blt_eq]at c2;obtain⟨ops,k⟩:=Option.isSome_iff_exists.1 hd;have hr:Ak todo=ops:=by
  unfold GB at k
  split at k
  ·obtain rfl:=Option.some.inj k;rfl
  cases k
 rw[hr]at hok hp hpa hk hS ha ht hs h c1 c2 c3 c4 hw;have a0:(Ay ops d j).size=ops.size:=by unfold Ay;simp
 refine DK ops (hd:=k) (hm:=hmo) ops.size (hs:=rfl) (QF hw (λc a w h=>by cases h.1) _ _ _ _ NQ ?_);rw[<-a0];refine(qz K m a o l zero hints specs (ts.length+1) hM hS hok ha hpa hp λu g Ku=>?_);obtain⟨x,s,hx,b0⟩:=h u g Ku;refine I4 (fuel:=ts.length) ((Ay ops d j).getD i default) (hr:=c1) (ho:=by simp[Array.getD,c2]) (hg:=c3) hx ?_;obtain⟨q,hq⟩:=Option.isSome_iff_exists.1 (hs g x (U s));have p:=ht g x (U s);have y:=hk g x (U s);rw[hq]at p y;simp only[Option.map_some,Option.some.injEq,Prod.mk.injEq]at p;exact LW (P:=P) (n:=n) (ops:=Ay ops d j) (L:=L' x) (T:=T) (w0:=w0) (fuel:=0) (Q:=λe a w=>e=.normal/\IM P f R (AO todo) a w) ts _ _ _ s b0 (U s) rfl q hq (I0 p.2) c4 λw' a K' ha=>⟨rfl,by rw[ha];rw[p.1]at K';exact(y w' K').mid⟩
abbrev AIL:=YX×Int×Int
end
end Go.Proofs.YtkpemkkbjfbmaaaGreat

/-
  Part 42 of a proof: contracts of functions.
-/
import Derived.Test.YtmcpjkcggfmcmaaGreatDoorD40
import Derived.Test.YtmcpjkcggfmcmaaGreatDoorD41
set_option linter.all false
namespace Go.Proofs.YtmcpjkcggfmcmaaGreatDoor
noncomputable section
open Go.RowKit
theorem Qb (args:List Value) (w:World):(callFunc 38 args.toArray).run Tryz.prog w=.ok (.enter 38 args.toArray) w:=by kernel_rfl
theorem NL (args:List Value) (w:World):(callFunc 67 args.toArray).run Tryz.prog w=.ok (.enter 67 args.toArray) w:=by kernel_rfl
theorem mn (args:List Value) (w:World):(callFunc 34 args.toArray).run Tryz.prog w=.ok (.enter 34 args.toArray) w:=by kernel_rfl
def Cl (t:Bool×Int×Int×Int):Value:=.agg #[.bool t.1,D t.2.1,D t.2.2.1,D t.2.2.2]
def LB (xs:List Int) (v:Value):Prop:=∃ x,x∈xs∧v=D x
abbrev Dz (b:Nat) (ns:List Int) (t s:Bool×Int×Int×Int) (g m lo:Nat) (w:World):World→Prop:=fun wx=>Jb b ns t s g m lo w [] [] wx
theorem D0 {b m lo:Nat} {v:Value} {u a:World} (h:DK m lo v u) (he:Ae b u a) (hb:b < lo):DK m lo v a:=by
  obtain ⟨x,cs,e,d,c⟩:=h
  exact ⟨x,cs,e,BX.keep (.of_but he hb) _ _ d,c⟩
section
variable {b n lo g:Nat} {ns:List Int} {t s:Bool×Int×Int×Int} {w:World} {a0:Act} {rules h:Int}
theorem Ky {u:World} {f:Act} (i:1≤n) (d:b < w.heap.size) (k:f.eval (.tmp 8)=ptr (w.heap.size + 1) 0) (j:f.defers=[]) (c:Dz b ns t s g (max 1 n) lo w u) {cs:List Value} {x:Ex} (h:Dr (max 1 n + 1) x) (a:BX lo u x cs) :
    bodyPost Tryz.prog Tryz.f36 (Iv b ns (Dr (max 1 (n + 1))) w) .ret f (u.setCells (w.heap.size + 1) 0 cs):=by
  have hl:=c.lo_b
  have e:=a
  obtain ⟨z,y,v,r,q,p,o,m,l,A,kn,kc,rfl⟩:=e.cells'
  rw [LA]
  exact bodyPost_ret (Ma (ty:=32) (by kernel_rfl) k _ (Vp (Ej c.st.res 0 10 (by simp [JV])) _ _ _ _ _ _ _ _ _ _) (by kernel_rfl) (by kernel_rfl)) j
    (Fj a (by omega) (h.mono (by omega)) c.st.tape c.st.but d _ _ _ _ _ _ _ _ _ _)
def EX:Array Oper:=ID Tryz.f36 22
def Jo:Wr:=[(125,0),(126,1),(127,2),(128,3),(129,4),(130,5),(131,6),(132,7),(133,8),(134,9),(135,10),(136,11),(137,12),(138,13)]
def Iu (b m lo:Nat) (t:Bool×Int×Int×Int) (a0:Act):List Ci:=
  [AN 0 [] (a0.eval (.tmp 0)),
   ⟨1,[],[1],fun vs w=>Fb b (Et [5,6]) 3 2 (vs.getD 0 undef) w⟩,
   ⟨2,[0,1],[2],fun vs _=>LB [5,6] (vs.getD 0 undef)⟩,
   AN 3 [] (a0.eval (.tmp 0)),
   AN 4 [] (Cl t),
   AN 5 [] (a0.eval (.tmp 9)),
   AN 6 [] (a0.eval (.tmp 3)),
   ⟨7,[0,1,2,3,4,5,6],[7],fun vs w=>DK m lo (vs.getD 0 undef) w⟩,
   AN 8 [] (a0.eval (.tmp 0)),
   AN 9 [] (Cl t),
   AN 10 [] (a0.eval (.tmp 9)),
   AN 11 [] (a0.eval (.tmp 3)),
   ⟨12,[0,1,2,3,4,5,6,7,8,9,10,11],[12],fun vs w=>DK m lo (vs.getD 0 undef) w⟩,
   ⟨13,[0,1,2,3,4,5,6,7,8,9,10,11,12],[13],fun vs w=>DK (m + 1) lo (vs.getD 0 undef) w⟩]
theorem wo (b m lo:Nat) (t:Bool×Int×Int×Int) (a0:Act) (hs:a0.tmps.size=275):(EY .any EX Jo (Array.replicate 15 false) a0.tmps.size (Iu b m lo t a0) && bare EX (Iu b m lo t a0))=true:=by rw [hs]; kernel_rfl
set_option maxRecDepth 100000 in
theorem iG (hlt:b < w.heap.size):DU Tryz.prog EX a0 Jo (Dz b ns t s g (max 1 n) lo w) (Ae b) (Iu b (max 1 n) lo t a0) ⟨1,[],[1],fun vs w=>Fb b (Et [5,6]) 3 2 (vs.getD 0 undef) w⟩:=by
  refine ⟨fun vs u u' hC he ⟨B,h1,h2,h3⟩=>⟨B,h1,Fm h2 h3 he,h3⟩,fun vals u hC hb=>?_⟩
  refine AH.value (v:=.slice (some ⟨u.heap.size,0,none⟩) 2 2) (w':=u.alloc (.cells (Et [5,6]).toArray 3)) ⟨?_,?_,?_⟩
  · exact hC.below hlt ((Below.refl _ _).alloc (Nat.le_refl _) _)
  · exact .of_below ((Below.refl _ _).alloc (Nat.le_refl _) _)
  · exact ⟨u.heap.size,rfl,heap_alloc_new _ _,by have:=hC.st.tape.lt; omega⟩
set_option maxRecDepth 100000 in
theorem iF (hlt:b < w.heap.size) (h0:a0.eval (.tmp 0)=ptr b 0):DU Tryz.prog EX a0 Jo (Dz b ns t s g (max 1 n) lo w) (Ae b) (Iu b (max 1 n) lo t a0) ⟨2,[0,1],[2],fun vs _=>LB [5,6] (vs.getD 0 undef)⟩:=by
  refine ⟨fun vs u u' hC he h=>h,fun vals u hC hb=>?_⟩
  obtain ⟨k0,⟨B,e1,hB,hne⟩,_⟩:=hb
  refine AH.call (f:=38) [.tmp 125,.tmp 126] (args:=[ptr b 0,.slice (some ⟨B,0,none⟩) 2 2]) (ats:=#[57,56]) rfl ?_ (Qb _ _) ?_
  · rw [show [.tmp 125,.tmp 126].map (CM a0 Jo vals)=[vals 0,vals 1] by kernel_rfl]
    rw [(List.cons.inj k0).1,h0]
    exact congrArg (fun z=>[ptr b 0,z]) e1
  · refine (I5 b B 2 ns [5,6] u hC.st.tape hne (by simp) (by simp) (fun i x hi=>?_)).mono ?_
    · rw [Lib.cell_of_heap hB,List.getElem?_toArray,Et,List.getElem?_map,hi]; rfl
    · rintro e u' ⟨x,hx,rfl,hT,hB'⟩
      exact ⟨_,rfl,hC.step hlt hT hB',hB',x,hx,rfl⟩
set_option maxRecDepth 100000 in
theorem iE (h5:a0.eval (.tmp 5)=ptr w.heap.size 0):DU Tryz.prog EX a0 Jo (Dz b ns t s g (max 1 n) lo w) (Ae b) (Iu b (max 1 n) lo t a0) (AN 4 [] (Cl t)):=by
  refine ⟨fun vs u u' hC he h=>h,fun vals u hC hb=>?_⟩
  exact AH.loadMid 26 (.tmp 5) ((by kernel_rfl:CM a0 Jo vals (.tmp 5)=a0.eval (.tmp 5)).trans h5) [.bool t.1,D t.2.1,D t.2.2.1,D t.2.2.2] (DF (l:=[.bool t.1,D t.2.1,D t.2.2.1,D t.2.2.2]) hC.st.ty 0 _ rfl) ⟨hC,.refl _ _,rfl⟩
set_option maxRecDepth 100000 in
theorem iD (hlt:b < w.heap.size) (IH:Bv b ns n) (hty:t∈BJ) (hn:h≤n) (hh:h≤100) (hl:-100≤h) (hr0:0≤rules) (hr1:rules≤10) (h0:a0.eval (.tmp 0)=ptr b 0) (h9:a0.eval (.tmp 9)=D h) (h3:a0.eval (.tmp 3)=D rules):DU Tryz.prog EX a0 Jo (Dz b ns t s g (max 1 n) lo w) (Ae b) (Iu b (max 1 n) lo t a0) ⟨7,[0,1,2,3,4,5,6],[7],fun vs w=>DK (max 1 n) lo (vs.getD 0 undef) w⟩:=by
  refine ⟨fun vs u u' hC he h=>D0 h he (by have:=hC.lo_b; omega),fun vals u hC hb=>?_⟩
  obtain ⟨_,_,_,k3,k4,k5,k6,_⟩:=hb
  refine AH.call (f:=36) [.tmp 128,.tmp 129,.tmp 130,.tmp 131] (args:=[ptr b 0,Cl t,D h,D rules]) (ats:=#[57,26,3,3]) rfl ?_ (Il _ _) ?_
  · rw [show [.tmp 128,.tmp 129,.tmp 130,.tmp 131].map (CM a0 Jo vals)=[vals 3,vals 4,vals 5,vals 6] by kernel_rfl]
    rw [(List.cons.inj k3).1,(List.cons.inj k4).1,(List.cons.inj k5).1,(List.cons.inj k6).1,h0,h9,h3]
  · refine (IH t.1 t.2.1 t.2.2.1 t.2.2.2 h rules u hC.st.tape hty hn hh hl hr0 hr1).mono ?_
    rintro e u' ⟨x,cs,hx,hex,rfl,hT,hB⟩
    exact ⟨_,rfl,hC.step hlt hT hB,hB,x,cs,hx,BX.mono hC.lo_le _ _ hex,rfl⟩
set_option maxRecDepth 100000 in
theorem iC (h5:a0.eval (.tmp 5)=ptr w.heap.size 0):DU Tryz.prog EX a0 Jo (Dz b ns t s g (max 1 n) lo w) (Ae b) (Iu b (max 1 n) lo t a0) (AN 9 [] (Cl t)):=by
  refine ⟨fun vs u u' hC he h=>h,fun vals u hC hb=>?_⟩
  exact AH.loadMid 26 (.tmp 5) ((by kernel_rfl:CM a0 Jo vals (.tmp 5)=a0.eval (.tmp 5)).trans h5) [.bool t.1,D t.2.1,D t.2.2.1,D t.2.2.2] (DF (l:=[.bool t.1,D t.2.1,D t.2.2.1,D t.2.2.2]) hC.st.ty 0 _ rfl) ⟨hC,.refl _ _,rfl⟩
set_option maxRecDepth 100000 in
theorem cA (hlt:b < w.heap.size) (IH:Bv b ns n) (hty:t∈BJ) (hn:h≤n) (hh:h≤100) (hl:-100≤h) (hr0:0≤rules) (hr1:rules≤10) (h0:a0.eval (.tmp 0)=ptr b 0) (h9:a0.eval (.tmp 9)=D h) (h3:a0.eval (.tmp 3)=D rules):DU Tryz.prog EX a0 Jo (Dz b ns t s g (max 1 n) lo w) (Ae b) (Iu b (max 1 n) lo t a0) ⟨12,[0,1,2,3,4,5,6,7,8,9,10,11],[12],fun vs w=>DK (max 1 n) lo (vs.getD 0 undef) w⟩:=by
  refine ⟨fun vs u u' hC he h=>D0 h he (by have:=hC.lo_b; omega),fun vals u hC hb=>?_⟩
  obtain ⟨_,_,_,_,_,_,_,_,k8,k9,k10,k11,_⟩:=hb
  refine AH.call (f:=36) [.tmp 133,.tmp 134,.tmp 135,.tmp 136] (args:=[ptr b 0,Cl t,D h,D rules]) (ats:=#[57,26,3,3]) rfl ?_ (Il _ _) ?_
  · rw [show [.tmp 133,.tmp 134,.tmp 135,.tmp 136].map (CM a0 Jo vals)=[vals 8,vals 9,vals 10,vals 11] by kernel_rfl]
    rw [(List.cons.inj k8).1,(List.cons.inj k9).1,(List.cons.inj k10).1,(List.cons.inj k11).1,h0,h9,h3]
  · refine (IH t.1 t.2.1 t.2.2.1 t.2.2.2 h rules u hC.st.tape hty hn hh hl hr0 hr1).mono ?_
    rintro e u' ⟨x,cs,hx,hex,rfl,hT,hB⟩
    exact ⟨_,rfl,hC.step hlt hT hB,hB,x,cs,hx,BX.mono hC.lo_le _ _ hex,rfl⟩
set_option maxRecDepth 100000 in
theorem bz (hlt:b < w.heap.size):DU Tryz.prog EX a0 Jo (Dz b ns t s g (max 1 n) lo w) (Ae b) (Iu b (max 1 n) lo t a0) ⟨13,[0,1,2,3,4,5,6,7,8,9,10,11,12],[13],fun vs w=>DK (max 1 n + 1) lo (vs.getD 0 undef) w⟩:=by
  refine ⟨fun vs u u' hC he h=>D0 h he (by have:=hC.lo_b; omega),fun vals u hC hb=>?_⟩
  obtain ⟨_,_,⟨o,ho,eo⟩,_,_,_,_,⟨x,cx,hx,hex,ex⟩,_,_,_,_,⟨y,cy,hy,hey,ey⟩,_⟩:=hb
  refine AH.call (f:=67) [.tmp 127,.tmp 132,.tmp 137] (args:=[D o,.agg cx.toArray,.agg cy.toArray]) (ats:=#[3,32,32]) rfl ?_ (NL _ _) ?_
  · rw [show [.tmp 127,.tmp 132,.tmp 137].map (CM a0 Jo vals)=[vals 2,vals 7,vals 12] by kernel_rfl]
    rw [show vals 2=D o from eo,show vals 7=.agg cx.toArray from ex,show vals 12=.agg cy.toArray from ey]
  · refine (Fv lo o x y cx cy u hC.lo_le hex hey).mono ?_
    rintro e u' ⟨cs,hcs,rfl,hb'⟩
    exact ⟨_,rfl,hC.below hlt hb',.of_below hb',_,cs,F7 (GI (by simp only [List.mem_cons,List.not_mem_nil,or_false] at ho; omega) (by simp only [List.mem_cons,List.not_mem_nil,or_false] at ho; omega) (by simp only [List.mem_cons,List.not_mem_nil,or_false] at ho; rcases ho with rfl | rfl <;> rfl)) (show FT (max 1 n) [x,y] from ⟨hx,hy,trivial⟩),hcs,rfl⟩
set_option maxRecDepth 100000 in
theorem mY (hlt:b < w.heap.size) (IH:Bv b ns n) (hty:t∈BJ) (hn:h≤n) (hh:h≤100) (hl:-100≤h) (hr0:0≤rules) (hr1:rules≤10) (h0:a0.eval (.tmp 0)=ptr b 0) (h9:a0.eval (.tmp 9)=D h) (h3:a0.eval (.tmp 3)=D rules) (h5:a0.eval (.tmp 5)=ptr w.heap.size 0) :
    Io Tryz.prog EX a0 Jo (Dz b ns t s g (max 1 n) lo w) (Ae b) (Iu b (max 1 n) lo t a0) (Iu b (max 1 n) lo t a0):=
    ⟨Bg (Ae.refl b) (fun _ _ _ _=>by kernel_rfl),
     iG hlt,
     iF hlt h0,
     Bg (Ae.refl b) (fun _ _ _ _=>by kernel_rfl),
     iE h5,
     Bg (Ae.refl b) (fun _ _ _ _=>by kernel_rfl),
     Bg (Ae.refl b) (fun _ _ _ _=>by kernel_rfl),
     iD hlt IH hty hn hh hl hr0 hr1 h0 h9 h3,
     Bg (Ae.refl b) (fun _ _ _ _=>by kernel_rfl),
     iC h5,
     Bg (Ae.refl b) (fun _ _ _ _=>by kernel_rfl),
     Bg (Ae.refl b) (fun _ _ _ _=>by kernel_rfl),
     cA hlt IH hty hn hh hl hr0 hr1 h0 h9 h3,
     bz hlt,trivial⟩
set_option maxHeartbeats 400000 in
set_option maxRecDepth 100000 in
theorem T3 (hlt:b < w.heap.size) (IH:Bv b ns n) (hty:t∈BJ) (hn:h≤n) (hh:h≤100) (hl:-100≤h) (hr0:0≤rules) (hr1:rules≤10) (hs:a0.tmps.size=275) (h0:a0.eval (.tmp 0)=ptr b 0) (h9:a0.eval (.tmp 9)=D h) (h3:a0.eval (.tmp 3)=D rules) (h5:a0.eval (.tmp 5)=ptr w.heap.size 0) (h8:a0.eval (.tmp 8)=ptr (w.heap.size + 1) 0)
    {wk:World} (hA:Dz b ns t s g (max 1 n) lo w wk) {Q:Exit→Act→World→Prop}
    (hQ:∀ a' u x cs,a'.eval (.tmp 8)=ptr (w.heap.size + 1) 0→a'.defers=a0.defers→Dz b ns t s g (max 1 n) lo w u→Dr (max 1 n + 1) x→BX lo u x cs→Q .normal a' (u.setCells (w.heap.size + 1) 0 cs)) :
    (Code.region 22 EX true).wp Tryz.prog Q a0 wk:=by
  refine wp_region_any (by kernel_rfl) ?_
  have hsz:EX.size=15:=by kernel_rfl
  rw [hsz]
  have hd:Dz b ns t s g (max 1 n) lo w { wk with drawn:=wk.drawn + 1 }:=hA.below hlt (Below.refl _ _).drew
  let z0:=Iu b (max 1 n) lo t a0
  refine IZ (fuel:=1) (L:=z0) (W:=Jo) (C:=Dz b ns t s g (max 1 n) lo w) (Ext:=Ae b) (wo b (max 1 n) lo t a0 hs) hd (Ae.refl b) (fun _ _ _=>Ae.trans)
    (mY hlt IH hty hn hh hl hr0 hr1 h0 h9 h3 h5) ?_
  intro vals u hC _ hall
  obtain ⟨_,_,_,_,_,_,_,_,_,_,_,_,_,⟨x,cs,hx,hex,ecs⟩,_⟩:=hall
  have r1:Region.ready .any EX ((z0.map (·.idx)).foldl (fun b i=>b.setIfInBounds i true) (Array.replicate 15 false))=[14]:=by kernel_rfl
  have r2:Region.ready .any EX (((z0.map (·.idx)).foldl (fun b i=>b.setIfInBounds i true) (Array.replicate 15 false)).setIfInBounds 14 true)=[]:=by kernel_rfl
  have e8:(Ey EX vals (z0.map (·.idx)) a0).eval (.tmp 8)=ptr (w.heap.size + 1) 0:=(JU 8 (by kernel_rfl)).trans h8
  have ev:(Ey EX vals (z0.map (·.idx)) a0).eval (.tmp 138)=.agg cs.toArray:=
    (LL 138 13 (by kernel_rfl) (by rw [hs]; decide)).trans ecs
  have ed:=(HM EX vals (z0.map (·.idx)) a0).2
  generalize Ey EX vals (z0.map (·.idx)) a0=aF at *
  generalize (z0.map (·.idx)).foldl (fun b i=>b.setIfInBounds i true) (Array.replicate 15 false)=lst at *
  have hop:(EX.getD 14 default).op=.store 32 (.tmp 8) (.tmp 138):=by kernel_rfl
  have hdst:(EX.getD 14 default).dst=none:=by kernel_rfl
  have hgu:(EX.getD 14 default).guard=none:=by kernel_rfl
  have hat:EX[14]?=some (EX.getD 14 default):=by kernel_rfl
  generalize EX.getD 14 default=oS at *
  refine KM r1 hat hgu r2 ?_
  have hcs:=hex
  obtain ⟨x0,x1,x2,x3,x4,x5,x6,x7,x8,A,kn,kc,rfl⟩:=hcs.cells'
  refine wp_store_mid 32 (.tmp 8) (.tmp 138) hop (w.heap.size + 1) 0 _ e8 ev ?_ (by kernel_rfl) ?_ ?_
  · exact Ej hC.st.res 0 _ (by simp [JV])
  · simp [Value.oneCell']
  · rw [hdst]
    exact hQ _ u x _ e8 ed hC hx hex
def EW:Array Oper:=ID Tryz.f36 24
def Jn:Wr:=[(141,0),(142,1),(143,2),(144,3),(145,4),(146,5),(147,6),(148,7),(149,8),(150,9),(151,10),(152,11),(153,12),(154,13)]
def It (b m lo:Nat) (t:Bool×Int×Int×Int) (a0:Act):List Ci:=
  [AN 0 [] (a0.eval (.tmp 0)),
   ⟨1,[],[1],fun vs w=>Fb b (Et [14,15]) 3 2 (vs.getD 0 undef) w⟩,
   ⟨2,[0,1],[2],fun vs _=>LB [14,15] (vs.getD 0 undef)⟩,
   AN 3 [] (a0.eval (.tmp 0)),
   AN 4 [] (Cl t),
   AN 5 [] (a0.eval (.tmp 9)),
   AN 6 [] (a0.eval (.tmp 3)),
   ⟨7,[0,1,2,3,4,5,6],[7],fun vs w=>DK m lo (vs.getD 0 undef) w⟩,
   AN 8 [] (a0.eval (.tmp 0)),
   AN 9 [] (Cl t),
   AN 10 [] (a0.eval (.tmp 9)),
   AN 11 [] (a0.eval (.tmp 3)),
   ⟨12,[0,1,2,3,4,5,6,7,8,9,10,11],[12],fun vs w=>DK m lo (vs.getD 0 undef) w⟩,
   ⟨13,[0,1,2,3,4,5,6,7,8,9,10,11,12],[13],fun vs w=>DK (m + 1) lo (vs.getD 0 undef) w⟩]
theorem wn (b m lo:Nat) (t:Bool×Int×Int×Int) (a0:Act) (hs:a0.tmps.size=275):(EY .any EW Jn (Array.replicate 15 false) a0.tmps.size (It b m lo t a0) && bare EW (It b m lo t a0))=true:=by rw [hs]; kernel_rfl
set_option maxRecDepth 100000 in
theorem iB (hlt:b < w.heap.size):DU Tryz.prog EW a0 Jn (Dz b ns t s g (max 1 n) lo w) (Ae b) (It b (max 1 n) lo t a0) ⟨1,[],[1],fun vs w=>Fb b (Et [14,15]) 3 2 (vs.getD 0 undef) w⟩:=by
  refine ⟨fun vs u u' hC he ⟨B,h1,h2,h3⟩=>⟨B,h1,Fm h2 h3 he,h3⟩,fun vals u hC hb=>?_⟩
  refine AH.value (v:=.slice (some ⟨u.heap.size,0,none⟩) 2 2) (w':=u.alloc (.cells (Et [14,15]).toArray 3)) ⟨?_,?_,?_⟩
  · exact hC.below hlt ((Below.refl _ _).alloc (Nat.le_refl _) _)
  · exact .of_below ((Below.refl _ _).alloc (Nat.le_refl _) _)
  · exact ⟨u.heap.size,rfl,heap_alloc_new _ _,by have:=hC.st.tape.lt; omega⟩
set_option maxRecDepth 100000 in
theorem iA (hlt:b < w.heap.size) (h0:a0.eval (.tmp 0)=ptr b 0):DU Tryz.prog EW a0 Jn (Dz b ns t s g (max 1 n) lo w) (Ae b) (It b (max 1 n) lo t a0) ⟨2,[0,1],[2],fun vs _=>LB [14,15] (vs.getD 0 undef)⟩:=by
  refine ⟨fun vs u u' hC he h=>h,fun vals u hC hb=>?_⟩
  obtain ⟨k0,⟨B,e1,hB,hne⟩,_⟩:=hb
  refine AH.call (f:=38) [.tmp 141,.tmp 142] (args:=[ptr b 0,.slice (some ⟨B,0,none⟩) 2 2]) (ats:=#[57,56]) rfl ?_ (Qb _ _) ?_
  · rw [show [.tmp 141,.tmp 142].map (CM a0 Jn vals)=[vals 0,vals 1] by kernel_rfl]
    rw [(List.cons.inj k0).1,h0]
    exact congrArg (fun z=>[ptr b 0,z]) e1
  · refine (I5 b B 2 ns [14,15] u hC.st.tape hne (by simp) (by simp) (fun i x hi=>?_)).mono ?_
    · rw [Lib.cell_of_heap hB,List.getElem?_toArray,Et,List.getElem?_map,hi]; rfl
    · rintro e u' ⟨x,hx,rfl,hT,hB'⟩
      exact ⟨_,rfl,hC.step hlt hT hB',hB',x,hx,rfl⟩
set_option maxRecDepth 100000 in
theorem hZ (h5:a0.eval (.tmp 5)=ptr w.heap.size 0):DU Tryz.prog EW a0 Jn (Dz b ns t s g (max 1 n) lo w) (Ae b) (It b (max 1 n) lo t a0) (AN 4 [] (Cl t)):=by
  refine ⟨fun vs u u' hC he h=>h,fun vals u hC hb=>?_⟩
  exact AH.loadMid 26 (.tmp 5) ((by kernel_rfl:CM a0 Jn vals (.tmp 5)=a0.eval (.tmp 5)).trans h5) [.bool t.1,D t.2.1,D t.2.2.1,D t.2.2.2] (DF (l:=[.bool t.1,D t.2.1,D t.2.2.1,D t.2.2.2]) hC.st.ty 0 _ rfl) ⟨hC,.refl _ _,rfl⟩
set_option maxRecDepth 100000 in
theorem hY (hlt:b < w.heap.size) (IH:Bv b ns n) (hty:t∈BJ) (hn:h≤n) (hh:h≤100) (hl:-100≤h) (hr0:0≤rules) (hr1:rules≤10) (h0:a0.eval (.tmp 0)=ptr b 0) (h9:a0.eval (.tmp 9)=D h) (h3:a0.eval (.tmp 3)=D rules):DU Tryz.prog EW a0 Jn (Dz b ns t s g (max 1 n) lo w) (Ae b) (It b (max 1 n) lo t a0) ⟨7,[0,1,2,3,4,5,6],[7],fun vs w=>DK (max 1 n) lo (vs.getD 0 undef) w⟩:=by
  refine ⟨fun vs u u' hC he h=>D0 h he (by have:=hC.lo_b; omega),fun vals u hC hb=>?_⟩
  obtain ⟨_,_,_,k3,k4,k5,k6,_⟩:=hb
  refine AH.call (f:=36) [.tmp 144,.tmp 145,.tmp 146,.tmp 147] (args:=[ptr b 0,Cl t,D h,D rules]) (ats:=#[57,26,3,3]) rfl ?_ (Il _ _) ?_
  · rw [show [.tmp 144,.tmp 145,.tmp 146,.tmp 147].map (CM a0 Jn vals)=[vals 3,vals 4,vals 5,vals 6] by kernel_rfl]
    rw [(List.cons.inj k3).1,(List.cons.inj k4).1,(List.cons.inj k5).1,(List.cons.inj k6).1,h0,h9,h3]
  · refine (IH t.1 t.2.1 t.2.2.1 t.2.2.2 h rules u hC.st.tape hty hn hh hl hr0 hr1).mono ?_
    rintro e u' ⟨x,cs,hx,hex,rfl,hT,hB⟩
    exact ⟨_,rfl,hC.step hlt hT hB,hB,x,cs,hx,BX.mono hC.lo_le _ _ hex,rfl⟩
set_option maxRecDepth 100000 in
theorem hU (h5:a0.eval (.tmp 5)=ptr w.heap.size 0):DU Tryz.prog EW a0 Jn (Dz b ns t s g (max 1 n) lo w) (Ae b) (It b (max 1 n) lo t a0) (AN 9 [] (Cl t)):=by
  refine ⟨fun vs u u' hC he h=>h,fun vals u hC hb=>?_⟩
  exact AH.loadMid 26 (.tmp 5) ((by kernel_rfl:CM a0 Jn vals (.tmp 5)=a0.eval (.tmp 5)).trans h5) [.bool t.1,D t.2.1,D t.2.2.1,D t.2.2.2] (DF (l:=[.bool t.1,D t.2.1,D t.2.2.1,D t.2.2.2]) hC.st.ty 0 _ rfl) ⟨hC,.refl _ _,rfl⟩
set_option maxRecDepth 100000 in
theorem bx (hlt:b < w.heap.size) (IH:Bv b ns n) (hty:t∈BJ) (hn:h≤n) (hh:h≤100) (hl:-100≤h) (hr0:0≤rules) (hr1:rules≤10) (h0:a0.eval (.tmp 0)=ptr b 0) (h9:a0.eval (.tmp 9)=D h) (h3:a0.eval (.tmp 3)=D rules):DU Tryz.prog EW a0 Jn (Dz b ns t s g (max 1 n) lo w) (Ae b) (It b (max 1 n) lo t a0) ⟨12,[0,1,2,3,4,5,6,7,8,9,10,11],[12],fun vs w=>DK (max 1 n) lo (vs.getD 0 undef) w⟩:=by
  refine ⟨fun vs u u' hC he h=>D0 h he (by have:=hC.lo_b; omega),fun vals u hC hb=>?_⟩
  obtain ⟨_,_,_,_,_,_,_,_,k8,k9,k10,k11,_⟩:=hb
  refine AH.call (f:=36) [.tmp 149,.tmp 150,.tmp 151,.tmp 152] (args:=[ptr b 0,Cl t,D h,D rules]) (ats:=#[57,26,3,3]) rfl ?_ (Il _ _) ?_
  · rw [show [.tmp 149,.tmp 150,.tmp 151,.tmp 152].map (CM a0 Jn vals)=[vals 8,vals 9,vals 10,vals 11] by kernel_rfl]
    rw [(List.cons.inj k8).1,(List.cons.inj k9).1,(List.cons.inj k10).1,(List.cons.inj k11).1,h0,h9,h3]
  · refine (IH t.1 t.2.1 t.2.2.1 t.2.2.2 h rules u hC.st.tape hty hn hh hl hr0 hr1).mono ?_
    rintro e u' ⟨x,cs,hx,hex,rfl,hT,hB⟩
    exact ⟨_,rfl,hC.step hlt hT hB,hB,x,cs,hx,BX.mono hC.lo_le _ _ hex,rfl⟩
set_option maxRecDepth 100000 in
theorem bw (hlt:b < w.heap.size):DU Tryz.prog EW a0 Jn (Dz b ns t s g (max 1 n) lo w) (Ae b) (It b (max 1 n) lo t a0) ⟨13,[0,1,2,3,4,5,6,7,8,9,10,11,12],[13],fun vs w=>DK (max 1 n + 1) lo (vs.getD 0 undef) w⟩:=by
  refine ⟨fun vs u u' hC he h=>D0 h he (by have:=hC.lo_b; omega),fun vals u hC hb=>?_⟩
  obtain ⟨_,_,⟨o,ho,eo⟩,_,_,_,_,⟨x,cx,hx,hex,ex⟩,_,_,_,_,⟨y,cy,hy,hey,ey⟩,_⟩:=hb
  refine AH.call (f:=67) [.tmp 143,.tmp 148,.tmp 153] (args:=[D o,.agg cx.toArray,.agg cy.toArray]) (ats:=#[3,32,32]) rfl ?_ (NL _ _) ?_
  · rw [show [.tmp 143,.tmp 148,.tmp 153].map (CM a0 Jn vals)=[vals 2,vals 7,vals 12] by kernel_rfl]
    rw [show vals 2=D o from eo,show vals 7=.agg cx.toArray from ex,show vals 12=.agg cy.toArray from ey]
  · refine (Fv lo o x y cx cy u hC.lo_le hex hey).mono ?_
    rintro e u' ⟨cs,hcs,rfl,hb'⟩
    exact ⟨_,rfl,hC.below hlt hb',.of_below hb',_,cs,F7 (GI (by simp only [List.mem_cons,List.not_mem_nil,or_false] at ho; omega) (by simp only [List.mem_cons,List.not_mem_nil,or_false] at ho; omega) (by simp only [List.mem_cons,List.not_mem_nil,or_false] at ho; rcases ho with rfl | rfl <;> rfl)) (show FT (max 1 n) [x,y] from ⟨hx,hy,trivial⟩),hcs,rfl⟩
set_option maxRecDepth 100000 in
theorem mX (hlt:b < w.heap.size) (IH:Bv b ns n) (hty:t∈BJ) (hn:h≤n) (hh:h≤100) (hl:-100≤h) (hr0:0≤rules) (hr1:rules≤10) (h0:a0.eval (.tmp 0)=ptr b 0) (h9:a0.eval (.tmp 9)=D h) (h3:a0.eval (.tmp 3)=D rules) (h5:a0.eval (.tmp 5)=ptr w.heap.size 0) :
    Io Tryz.prog EW a0 Jn (Dz b ns t s g (max 1 n) lo w) (Ae b) (It b (max 1 n) lo t a0) (It b (max 1 n) lo t a0):=
    ⟨Bg (Ae.refl b) (fun _ _ _ _=>by kernel_rfl),
     iB hlt,
     iA hlt h0,
     Bg (Ae.refl b) (fun _ _ _ _=>by kernel_rfl),
     hZ h5,
     Bg (Ae.refl b) (fun _ _ _ _=>by kernel_rfl),
     Bg (Ae.refl b) (fun _ _ _ _=>by kernel_rfl),
     hY hlt IH hty hn hh hl hr0 hr1 h0 h9 h3,
     Bg (Ae.refl b) (fun _ _ _ _=>by kernel_rfl),
     hU h5,
     Bg (Ae.refl b) (fun _ _ _ _=>by kernel_rfl),
     Bg (Ae.refl b) (fun _ _ _ _=>by kernel_rfl),
     bx hlt IH hty hn hh hl hr0 hr1 h0 h9 h3,
     bw hlt,trivial⟩
set_option maxHeartbeats 400000 in
set_option maxRecDepth 100000 in
theorem gb (hlt:b < w.heap.size) (IH:Bv b ns n) (hty:t∈BJ) (hn:h≤n) (hh:h≤100) (hl:-100≤h) (hr0:0≤rules) (hr1:rules≤10) (hs:a0.tmps.size=275) (h0:a0.eval (.tmp 0)=ptr b 0) (h9:a0.eval (.tmp 9)=D h) (h3:a0.eval (.tmp 3)=D rules) (h5:a0.eval (.tmp 5)=ptr w.heap.size 0) (h8:a0.eval (.tmp 8)=ptr (w.heap.size + 1) 0)
    {wk:World} (hA:Dz b ns t s g (max 1 n) lo w wk) {Q:Exit→Act→World→Prop}
    (hQ:∀ a' u x cs,a'.eval (.tmp 8)=ptr (w.heap.size + 1) 0→a'.defers=a0.defers→Dz b ns t s g (max 1 n) lo w u→Dr (max 1 n + 1) x→BX lo u x cs→Q .normal a' (u.setCells (w.heap.size + 1) 0 cs)) :
    (Code.region 24 EW true).wp Tryz.prog Q a0 wk:=by
  refine wp_region_any (by kernel_rfl) ?_
  have hsz:EW.size=15:=by kernel_rfl
  rw [hsz]
  have hd:Dz b ns t s g (max 1 n) lo w { wk with drawn:=wk.drawn + 1 }:=hA.below hlt (Below.refl _ _).drew
  let z0:=It b (max 1 n) lo t a0
  refine IZ (fuel:=1) (L:=z0) (W:=Jn) (C:=Dz b ns t s g (max 1 n) lo w) (Ext:=Ae b) (wn b (max 1 n) lo t a0 hs) hd (Ae.refl b) (fun _ _ _=>Ae.trans)
    (mX hlt IH hty hn hh hl hr0 hr1 h0 h9 h3 h5) ?_
  intro vals u hC _ hall
  obtain ⟨_,_,_,_,_,_,_,_,_,_,_,_,_,⟨x,cs,hx,hex,ecs⟩,_⟩:=hall
  have r1:Region.ready .any EW ((z0.map (·.idx)).foldl (fun b i=>b.setIfInBounds i true) (Array.replicate 15 false))=[14]:=by kernel_rfl
  have r2:Region.ready .any EW (((z0.map (·.idx)).foldl (fun b i=>b.setIfInBounds i true) (Array.replicate 15 false)).setIfInBounds 14 true)=[]:=by kernel_rfl
  have e8:(Ey EW vals (z0.map (·.idx)) a0).eval (.tmp 8)=ptr (w.heap.size + 1) 0:=(JU 8 (by kernel_rfl)).trans h8
  have ev:(Ey EW vals (z0.map (·.idx)) a0).eval (.tmp 154)=.agg cs.toArray:=
    (LL 154 13 (by kernel_rfl) (by rw [hs]; decide)).trans ecs
  have ed:=(HM EW vals (z0.map (·.idx)) a0).2
  generalize Ey EW vals (z0.map (·.idx)) a0=aF at *
  generalize (z0.map (·.idx)).foldl (fun b i=>b.setIfInBounds i true) (Array.replicate 15 false)=lst at *
  have hop:(EW.getD 14 default).op=.store 32 (.tmp 8) (.tmp 154):=by kernel_rfl
  have hdst:(EW.getD 14 default).dst=none:=by kernel_rfl
  have hgu:(EW.getD 14 default).guard=none:=by kernel_rfl
  have hat:EW[14]?=some (EW.getD 14 default):=by kernel_rfl
  generalize EW.getD 14 default=oS at *
  refine KM r1 hat hgu r2 ?_
  have hcs:=hex
  obtain ⟨x0,x1,x2,x3,x4,x5,x6,x7,x8,A,kn,kc,rfl⟩:=hcs.cells'
  refine wp_store_mid 32 (.tmp 8) (.tmp 154) hop (w.heap.size + 1) 0 _ e8 ev ?_ (by kernel_rfl) ?_ ?_
  · exact Ej hC.st.res 0 _ (by simp [JV])
  · simp [Value.oneCell']
  · rw [hdst]
    exact hQ _ u x _ e8 ed hC hx hex
def EV:Array Oper:=ID Tryz.f36 30
def KO:Wr:=[(187,0),(188,1),(189,2),(190,3),(191,4),(192,5),(193,6),(194,7),(195,8),(196,9),(197,10),(198,11),(199,12),(200,13)]
def Is (b m lo:Nat) (t:Bool×Int×Int×Int) (a0:Act):List Ci:=
  [AN 0 [] (a0.eval (.tmp 0)),
   ⟨1,[],[1],fun vs w=>Fb b (Et [7,8]) 3 2 (vs.getD 0 undef) w⟩,
   ⟨2,[0,1],[2],fun vs _=>LB [7,8] (vs.getD 0 undef)⟩,
   AN 3 [] (a0.eval (.tmp 0)),
   AN 4 [] (Cl t),
   AN 5 [] (a0.eval (.tmp 9)),
   AN 6 [] (a0.eval (.tmp 3)),
   ⟨7,[0,1,2,3,4,5,6],[7],fun vs w=>DK m lo (vs.getD 0 undef) w⟩,
   AN 8 [] (a0.eval (.tmp 0)),
   AN 9 [0,1,2,3,4,5,6,7] (Cl BU),
   AN 10 [] (a0.eval (.tmp 9)),
   AN 11 [] (a0.eval (.tmp 3)),
   ⟨12,[0,1,2,3,4,5,6,7,8,9,10,11],[12],fun vs w=>DK m lo (vs.getD 0 undef) w⟩,
   ⟨13,[0,1,2,3,4,5,6,7,8,9,10,11,12],[13],fun vs w=>DK (m + 1) lo (vs.getD 0 undef) w⟩]
theorem wj (b m lo:Nat) (t:Bool×Int×Int×Int) (a0:Act) (hs:a0.tmps.size=275):(EY .any EV KO (Array.replicate 15 false) a0.tmps.size (Is b m lo t a0) && bare EV (Is b m lo t a0))=true:=by rw [hs]; kernel_rfl
set_option maxRecDepth 100000 in
theorem gy (hlt:b < w.heap.size):DU Tryz.prog EV a0 KO (Dz b ns t s g (max 1 n) lo w) (Ae b) (Is b (max 1 n) lo t a0) ⟨1,[],[1],fun vs w=>Fb b (Et [7,8]) 3 2 (vs.getD 0 undef) w⟩:=by
  refine ⟨fun vs u u' hC he ⟨B,h1,h2,h3⟩=>⟨B,h1,Fm h2 h3 he,h3⟩,fun vals u hC hb=>?_⟩
  refine AH.value (v:=.slice (some ⟨u.heap.size,0,none⟩) 2 2) (w':=u.alloc (.cells (Et [7,8]).toArray 3)) ⟨?_,?_,?_⟩
  · exact hC.below hlt ((Below.refl _ _).alloc (Nat.le_refl _) _)
  · exact .of_below ((Below.refl _ _).alloc (Nat.le_refl _) _)
  · exact ⟨u.heap.size,rfl,heap_alloc_new _ _,by have:=hC.st.tape.lt; omega⟩
set_option maxRecDepth 100000 in
theorem gx (hlt:b < w.heap.size) (h0:a0.eval (.tmp 0)=ptr b 0):DU Tryz.prog EV a0 KO (Dz b ns t s g (max 1 n) lo w) (Ae b) (Is b (max 1 n) lo t a0) ⟨2,[0,1],[2],fun vs _=>LB [7,8] (vs.getD 0 undef)⟩:=by
  refine ⟨fun vs u u' hC he h=>h,fun vals u hC hb=>?_⟩
  obtain ⟨k0,⟨B,e1,hB,hne⟩,_⟩:=hb
  refine AH.call (f:=38) [.tmp 187,.tmp 188] (args:=[ptr b 0,.slice (some ⟨B,0,none⟩) 2 2]) (ats:=#[57,56]) rfl ?_ (Qb _ _) ?_
  · rw [show [.tmp 187,.tmp 188].map (CM a0 KO vals)=[vals 0,vals 1] by kernel_rfl]
    rw [(List.cons.inj k0).1,h0]
    exact congrArg (fun z=>[ptr b 0,z]) e1
  · refine (I5 b B 2 ns [7,8] u hC.st.tape hne (by simp) (by simp) (fun i x hi=>?_)).mono ?_
    · rw [Lib.cell_of_heap hB,List.getElem?_toArray,Et,List.getElem?_map,hi]; rfl
    · rintro e u' ⟨x,hx,rfl,hT,hB'⟩
      exact ⟨_,rfl,hC.step hlt hT hB',hB',x,hx,rfl⟩
set_option maxRecDepth 100000 in
theorem gv (h5:a0.eval (.tmp 5)=ptr w.heap.size 0):DU Tryz.prog EV a0 KO (Dz b ns t s g (max 1 n) lo w) (Ae b) (Is b (max 1 n) lo t a0) (AN 4 [] (Cl t)):=by
  refine ⟨fun vs u u' hC he h=>h,fun vals u hC hb=>?_⟩
  exact AH.loadMid 26 (.tmp 5) ((by kernel_rfl:CM a0 KO vals (.tmp 5)=a0.eval (.tmp 5)).trans h5) [.bool t.1,D t.2.1,D t.2.2.1,D t.2.2.2] (DF (l:=[.bool t.1,D t.2.1,D t.2.2.1,D t.2.2.2]) hC.st.ty 0 _ rfl) ⟨hC,.refl _ _,rfl⟩
set_option maxRecDepth 100000 in
theorem gu (hlt:b < w.heap.size) (IH:Bv b ns n) (hty:t∈BJ) (hn:h≤n) (hh:h≤100) (hl:-100≤h) (hr0:0≤rules) (hr1:rules≤10) (h0:a0.eval (.tmp 0)=ptr b 0) (h9:a0.eval (.tmp 9)=D h) (h3:a0.eval (.tmp 3)=D rules):DU Tryz.prog EV a0 KO (Dz b ns t s g (max 1 n) lo w) (Ae b) (Is b (max 1 n) lo t a0) ⟨7,[0,1,2,3,4,5,6],[7],fun vs w=>DK (max 1 n) lo (vs.getD 0 undef) w⟩:=by
  refine ⟨fun vs u u' hC he h=>D0 h he (by have:=hC.lo_b; omega),fun vals u hC hb=>?_⟩
  obtain ⟨_,_,_,k3,k4,k5,k6,_⟩:=hb
  refine AH.call (f:=36) [.tmp 190,.tmp 191,.tmp 192,.tmp 193] (args:=[ptr b 0,Cl t,D h,D rules]) (ats:=#[57,26,3,3]) rfl ?_ (Il _ _) ?_
  · rw [show [.tmp 190,.tmp 191,.tmp 192,.tmp 193].map (CM a0 KO vals)=[vals 3,vals 4,vals 5,vals 6] by kernel_rfl]
    rw [(List.cons.inj k3).1,(List.cons.inj k4).1,(List.cons.inj k5).1,(List.cons.inj k6).1,h0,h9,h3]
  · refine (IH t.1 t.2.1 t.2.2.1 t.2.2.2 h rules u hC.st.tape hty hn hh hl hr0 hr1).mono ?_
    rintro e u' ⟨x,cs,hx,hex,rfl,hT,hB⟩
    exact ⟨_,rfl,hC.step hlt hT hB,hB,x,cs,hx,BX.mono hC.lo_le _ _ hex,rfl⟩
set_option maxRecDepth 100000 in
theorem gt (hlt:b < w.heap.size):DU Tryz.prog EV a0 KO (Dz b ns t s g (max 1 n) lo w) (Ae b) (Is b (max 1 n) lo t a0) (AN 9 [0,1,2,3,4,5,6,7] (Cl BU)):=by
  refine ⟨fun vs u u' hC he h=>h,fun vals u hC hb=>?_⟩
  refine AH.call (f:=34) [] (args:=[]) (ats:=#[]) rfl rfl (mn _ _) ?_
  refine (F5 u).mono ?_
  rintro e u' ⟨rfl,hb'⟩
  exact ⟨_,rfl,hC.below hlt hb',.of_below hb',rfl⟩
set_option maxRecDepth 100000 in
theorem bk (hlt:b < w.heap.size) (IH:Bv b ns n) (hn:h≤n) (hh:h≤100) (hl:-100≤h) (hr0:0≤rules) (hr1:rules≤10) (h0:a0.eval (.tmp 0)=ptr b 0) (h9:a0.eval (.tmp 9)=D h) (h3:a0.eval (.tmp 3)=D rules):DU Tryz.prog EV a0 KO (Dz b ns t s g (max 1 n) lo w) (Ae b) (Is b (max 1 n) lo t a0) ⟨12,[0,1,2,3,4,5,6,7,8,9,10,11],[12],fun vs w=>DK (max 1 n) lo (vs.getD 0 undef) w⟩:=by
  refine ⟨fun vs u u' hC he h=>D0 h he (by have:=hC.lo_b; omega),fun vals u hC hb=>?_⟩
  obtain ⟨_,_,_,_,_,_,_,_,k8,k9,k10,k11,_⟩:=hb
  refine AH.call (f:=36) [.tmp 195,.tmp 196,.tmp 197,.tmp 198] (args:=[ptr b 0,Cl BU,D h,D rules]) (ats:=#[57,26,3,3]) rfl ?_ (Il _ _) ?_
  · rw [show [.tmp 195,.tmp 196,.tmp 197,.tmp 198].map (CM a0 KO vals)=[vals 8,vals 9,vals 10,vals 11] by kernel_rfl]
    rw [(List.cons.inj k8).1,(List.cons.inj k9).1,(List.cons.inj k10).1,(List.cons.inj k11).1,h0,h9,h3]
  · refine (IH BU.1 BU.2.1 BU.2.2.1 BU.2.2.2 h rules u hC.st.tape Lu hn hh hl hr0 hr1).mono ?_
    rintro e u' ⟨x,cs,hx,hex,rfl,hT,hB⟩
    exact ⟨_,rfl,hC.step hlt hT hB,hB,x,cs,hx,BX.mono hC.lo_le _ _ hex,rfl⟩
set_option maxRecDepth 100000 in
theorem bj (hlt:b < w.heap.size):DU Tryz.prog EV a0 KO (Dz b ns t s g (max 1 n) lo w) (Ae b) (Is b (max 1 n) lo t a0) ⟨13,[0,1,2,3,4,5,6,7,8,9,10,11,12],[13],fun vs w=>DK (max 1 n + 1) lo (vs.getD 0 undef) w⟩:=by
  refine ⟨fun vs u u' hC he h=>D0 h he (by have:=hC.lo_b; omega),fun vals u hC hb=>?_⟩
  obtain ⟨_,_,⟨o,ho,eo⟩,_,_,_,_,⟨x,cx,hx,hex,ex⟩,_,_,_,_,⟨y,cy,hy,hey,ey⟩,_⟩:=hb
  refine AH.call (f:=67) [.tmp 189,.tmp 194,.tmp 199] (args:=[D o,.agg cx.toArray,.agg cy.toArray]) (ats:=#[3,32,32]) rfl ?_ (NL _ _) ?_
  · rw [show [.tmp 189,.tmp 194,.tmp 199].map (CM a0 KO vals)=[vals 2,vals 7,vals 12] by kernel_rfl]
    rw [show vals 2=D o from eo,show vals 7=.agg cx.toArray from ex,show vals 12=.agg cy.toArray from ey]
  · refine (Fv lo o x y cx cy u hC.lo_le hex hey).mono ?_
    rintro e u' ⟨cs,hcs,rfl,hb'⟩
    exact ⟨_,rfl,hC.below hlt hb',.of_below hb',_,cs,F7 (GI (by simp only [List.mem_cons,List.not_mem_nil,or_false] at ho; omega) (by simp only [List.mem_cons,List.not_mem_nil,or_false] at ho; omega) (by simp only [List.mem_cons,List.not_mem_nil,or_false] at ho; rcases ho with rfl | rfl <;> rfl)) (show FT (max 1 n) [x,y] from ⟨hx,hy,trivial⟩),hcs,rfl⟩
set_option maxRecDepth 100000 in
theorem mV (hlt:b < w.heap.size) (IH:Bv b ns n) (hty:t∈BJ) (hn:h≤n) (hh:h≤100) (hl:-100≤h) (hr0:0≤rules) (hr1:rules≤10) (h0:a0.eval (.tmp 0)=ptr b 0) (h9:a0.eval (.tmp 9)=D h) (h3:a0.eval (.tmp 3)=D rules) (h5:a0.eval (.tmp 5)=ptr w.heap.size 0) :
    Io Tryz.prog EV a0 KO (Dz b ns t s g (max 1 n) lo w) (Ae b) (Is b (max 1 n) lo t a0) (Is b (max 1 n) lo t a0):=
    ⟨Bg (Ae.refl b) (fun _ _ _ _=>by kernel_rfl),
     gy hlt,
     gx hlt h0,
     Bg (Ae.refl b) (fun _ _ _ _=>by kernel_rfl),
     gv h5,
     Bg (Ae.refl b) (fun _ _ _ _=>by kernel_rfl),
     Bg (Ae.refl b) (fun _ _ _ _=>by kernel_rfl),
     gu hlt IH hty hn hh hl hr0 hr1 h0 h9 h3,
     Bg (Ae.refl b) (fun _ _ _ _=>by kernel_rfl),
     gt hlt,
     Bg (Ae.refl b) (fun _ _ _ _=>by kernel_rfl),
     Bg (Ae.refl b) (fun _ _ _ _=>by kernel_rfl),
     bk hlt IH hn hh hl hr0 hr1 h0 h9 h3,
     bj hlt,trivial⟩
set_option maxHeartbeats 400000 in
set_option maxRecDepth 100000 in
theorem gZ (hlt:b < w.heap.size) (IH:Bv b ns n) (hty:t∈BJ) (hn:h≤n) (hh:h≤100) (hl:-100≤h) (hr0:0≤rules) (hr1:rules≤10) (hs:a0.tmps.size=275) (h0:a0.eval (.tmp 0)=ptr b 0) (h9:a0.eval (.tmp 9)=D h) (h3:a0.eval (.tmp 3)=D rules) (h5:a0.eval (.tmp 5)=ptr w.heap.size 0) (h8:a0.eval (.tmp 8)=ptr (w.heap.size + 1) 0)
    {wk:World} (hA:Dz b ns t s g (max 1 n) lo w wk) {Q:Exit→Act→World→Prop}
    (hQ:∀ a' u x cs,a'.eval (.tmp 8)=ptr (w.heap.size + 1) 0→a'.defers=a0.defers→Dz b ns t s g (max 1 n) lo w u→Dr (max 1 n + 1) x→BX lo u x cs→Q .normal a' (u.setCells (w.heap.size + 1) 0 cs)) :
    (Code.region 30 EV true).wp Tryz.prog Q a0 wk:=by
  refine wp_region_any (by kernel_rfl) ?_
  have hsz:EV.size=15:=by kernel_rfl
  rw [hsz]
  have hd:Dz b ns t s g (max 1 n) lo w { wk with drawn:=wk.drawn + 1 }:=hA.below hlt (Below.refl _ _).drew
  let z0:=Is b (max 1 n) lo t a0
  refine IZ (fuel:=1) (L:=z0) (W:=KO) (C:=Dz b ns t s g (max 1 n) lo w) (Ext:=Ae b) (wj b (max 1 n) lo t a0 hs) hd (Ae.refl b) (fun _ _ _=>Ae.trans)
    (mV hlt IH hty hn hh hl hr0 hr1 h0 h9 h3 h5) ?_
  intro vals u hC _ hall
  obtain ⟨_,_,_,_,_,_,_,_,_,_,_,_,_,⟨x,cs,hx,hex,ecs⟩,_⟩:=hall
  have r1:Region.ready .any EV ((z0.map (·.idx)).foldl (fun b i=>b.setIfInBounds i true) (Array.replicate 15 false))=[14]:=by kernel_rfl
  have r2:Region.ready .any EV (((z0.map (·.idx)).foldl (fun b i=>b.setIfInBounds i true) (Array.replicate 15 false)).setIfInBounds 14 true)=[]:=by kernel_rfl
  have e8:(Ey EV vals (z0.map (·.idx)) a0).eval (.tmp 8)=ptr (w.heap.size + 1) 0:=(JU 8 (by kernel_rfl)).trans h8
  have ev:(Ey EV vals (z0.map (·.idx)) a0).eval (.tmp 200)=.agg cs.toArray:=
    (LL 200 13 (by kernel_rfl) (by rw [hs]; decide)).trans ecs
  have ed:=(HM EV vals (z0.map (·.idx)) a0).2
  generalize Ey EV vals (z0.map (·.idx)) a0=aF at *
  generalize (z0.map (·.idx)).foldl (fun b i=>b.setIfInBounds i true) (Array.replicate 15 false)=lst at *
  have hop:(EV.getD 14 default).op=.store 32 (.tmp 8) (.tmp 200):=by kernel_rfl
  have hdst:(EV.getD 14 default).dst=none:=by kernel_rfl
  have hgu:(EV.getD 14 default).guard=none:=by kernel_rfl
  have hat:EV[14]?=some (EV.getD 14 default):=by kernel_rfl
  generalize EV.getD 14 default=oS at *
  refine KM r1 hat hgu r2 ?_
  have hcs:=hex
  obtain ⟨x0,x1,x2,x3,x4,x5,x6,x7,x8,A,kn,kc,rfl⟩:=hcs.cells'
  refine wp_store_mid 32 (.tmp 8) (.tmp 200) hop (w.heap.size + 1) 0 _ e8 ev ?_ (by kernel_rfl) ?_ ?_
  · exact Ej hC.st.res 0 _ (by simp [JV])
  · simp [Value.oneCell']
  · rw [hdst]
    exact hQ _ u x _ e8 ed hC hx hex
def Em:Array Oper:=ID Tryz.f36 41
def LU:Wr:=[(253,0),(254,1),(255,2),(256,3),(257,4),(258,5),(259,6),(260,7),(261,8),(262,9),(263,10)]
def Ja (_b m lo:Nat) (s:Bool×Int×Int×Int) (a0:Act):List Ci:=
  [AN 0 [] (a0.eval (.tmp 0)),
   AN 1 [] (Cl s),
   AN 2 [] (a0.eval (.tmp 9)),
   AN 3 [] (a0.eval (.tmp 3)),
   ⟨4,[0,1,2,3],[4],fun vs w=>DK m lo (vs.getD 0 undef) w⟩,
   AN 5 [] (a0.eval (.tmp 0)),
   AN 6 [] (Cl s),
   AN 7 [] (a0.eval (.tmp 9)),
   AN 8 [] (a0.eval (.tmp 3)),
   ⟨9,[0,1,2,3,4,5,6,7,8],[9],fun vs w=>DK m lo (vs.getD 0 undef) w⟩,
   ⟨10,[0,1,2,3,4,5,6,7,8,9],[10],fun vs w=>DK (m + 1) lo (vs.getD 0 undef) w⟩]
theorem wi (b m lo:Nat) (s:Bool×Int×Int×Int) (a0:Act) (hs:a0.tmps.size=275):(EY .any Em LU (Array.replicate 12 false) a0.tmps.size (Ja b m lo s a0) && bare Em (Ja b m lo s a0))=true:=by rw [hs]; kernel_rfl
set_option maxRecDepth 100000 in
theorem gr (h5:a0.eval (.tmp 10)=ptr g 0):DU Tryz.prog Em a0 LU (Dz b ns t s g (max 1 n) lo w) (Ae b) (Ja b (max 1 n) lo s a0) (AN 1 [] (Cl s)):=by
  refine ⟨fun vs u u' hC he h=>h,fun vals u hC hb=>?_⟩
  exact AH.loadMid 26 (.tmp 10) ((by kernel_rfl:CM a0 LU vals (.tmp 10)=a0.eval (.tmp 10)).trans h5) [.bool s.1,D s.2.1,D s.2.2.1,D s.2.2.2] (DF (l:=[.bool s.1,D s.2.1,D s.2.2.1,D s.2.2.2]) hC.some 0 _ rfl) ⟨hC,.refl _ _,rfl⟩
set_option maxRecDepth 100000 in
theorem gq (hlt:b < w.heap.size) (IH:Bv b ns n) (hty:s∈BJ) (hn:h≤n) (hh:h≤100) (hl:-100≤h) (hr0:0≤rules) (hr1:rules≤10) (h0:a0.eval (.tmp 0)=ptr b 0) (h9:a0.eval (.tmp 9)=D h) (h3:a0.eval (.tmp 3)=D rules):DU Tryz.prog Em a0 LU (Dz b ns t s g (max 1 n) lo w) (Ae b) (Ja b (max 1 n) lo s a0) ⟨4,[0,1,2,3],[4],fun vs w=>DK (max 1 n) lo (vs.getD 0 undef) w⟩:=by
  refine ⟨fun vs u u' hC he h=>D0 h he (by have:=hC.lo_b; omega),fun vals u hC hb=>?_⟩
  obtain ⟨k0,k1,k2,k3,_⟩:=hb
  refine AH.call (f:=36) [.tmp 253,.tmp 254,.tmp 255,.tmp 256] (args:=[ptr b 0,Cl s,D h,D rules]) (ats:=#[57,26,3,3]) rfl ?_ (Il _ _) ?_
  · rw [show [.tmp 253,.tmp 254,.tmp 255,.tmp 256].map (CM a0 LU vals)=[vals 0,vals 1,vals 2,vals 3] by kernel_rfl]
    rw [(List.cons.inj k0).1,(List.cons.inj k1).1,(List.cons.inj k2).1,(List.cons.inj k3).1,h0,h9,h3]
  · refine (IH s.1 s.2.1 s.2.2.1 s.2.2.2 h rules u hC.st.tape hty hn hh hl hr0 hr1).mono ?_
    rintro e u' ⟨x,cs,hx,hex,rfl,hT,hB⟩
    exact ⟨_,rfl,hC.step hlt hT hB,hB,x,cs,hx,BX.mono hC.lo_le _ _ hex,rfl⟩
set_option maxRecDepth 100000 in
theorem gp (h5:a0.eval (.tmp 10)=ptr g 0):DU Tryz.prog Em a0 LU (Dz b ns t s g (max 1 n) lo w) (Ae b) (Ja b (max 1 n) lo s a0) (AN 6 [] (Cl s)):=by
  refine ⟨fun vs u u' hC he h=>h,fun vals u hC hb=>?_⟩
  exact AH.loadMid 26 (.tmp 10) ((by kernel_rfl:CM a0 LU vals (.tmp 10)=a0.eval (.tmp 10)).trans h5) [.bool s.1,D s.2.1,D s.2.2.1,D s.2.2.2] (DF (l:=[.bool s.1,D s.2.1,D s.2.2.1,D s.2.2.2]) hC.some 0 _ rfl) ⟨hC,.refl _ _,rfl⟩
set_option maxRecDepth 100000 in
theorem gm (hlt:b < w.heap.size) (IH:Bv b ns n) (hty:s∈BJ) (hn:h≤n) (hh:h≤100) (hl:-100≤h) (hr0:0≤rules) (hr1:rules≤10) (h0:a0.eval (.tmp 0)=ptr b 0) (h9:a0.eval (.tmp 9)=D h) (h3:a0.eval (.tmp 3)=D rules):DU Tryz.prog Em a0 LU (Dz b ns t s g (max 1 n) lo w) (Ae b) (Ja b (max 1 n) lo s a0) ⟨9,[0,1,2,3,4,5,6,7,8],[9],fun vs w=>DK (max 1 n) lo (vs.getD 0 undef) w⟩:=by
  refine ⟨fun vs u u' hC he h=>D0 h he (by have:=hC.lo_b; omega),fun vals u hC hb=>?_⟩
  obtain ⟨_,_,_,_,_,k5,k6,k7,k8,_⟩:=hb
  refine AH.call (f:=36) [.tmp 258,.tmp 259,.tmp 260,.tmp 261] (args:=[ptr b 0,Cl s,D h,D rules]) (ats:=#[57,26,3,3]) rfl ?_ (Il _ _) ?_
  · rw [show [.tmp 258,.tmp 259,.tmp 260,.tmp 261].map (CM a0 LU vals)=[vals 5,vals 6,vals 7,vals 8] by kernel_rfl]
    rw [(List.cons.inj k5).1,(List.cons.inj k6).1,(List.cons.inj k7).1,(List.cons.inj k8).1,h0,h9,h3]
  · refine (IH s.1 s.2.1 s.2.2.1 s.2.2.2 h rules u hC.st.tape hty hn hh hl hr0 hr1).mono ?_
    rintro e u' ⟨x,cs,hx,hex,rfl,hT,hB⟩
    exact ⟨_,rfl,hC.step hlt hT hB,hB,x,cs,hx,BX.mono hC.lo_le _ _ hex,rfl⟩
set_option maxRecDepth 100000 in
theorem bh (hlt:b < w.heap.size):DU Tryz.prog Em a0 LU (Dz b ns t s g (max 1 n) lo w) (Ae b) (Ja b (max 1 n) lo s a0) ⟨10,[0,1,2,3,4,5,6,7,8,9],[10],fun vs w=>DK (max 1 n + 1) lo (vs.getD 0 undef) w⟩:=by
  refine ⟨fun vs u u' hC he h=>D0 h he (by have:=hC.lo_b; omega),fun vals u hC hb=>?_⟩
  obtain ⟨_,_,_,_,⟨x,cx,hx,hex,ex⟩,_,_,_,_,⟨y,cy,hy,hey,ey⟩,_⟩:=hb
  refine AH.call (f:=67) [.const (D 8),.tmp 257,.tmp 262] (args:=[D 8,.agg cx.toArray,.agg cy.toArray]) (ats:=#[3,32,32]) rfl ?_ (NL _ _) ?_
  · rw [show [.const (D 8),.tmp 257,.tmp 262].map (CM a0 LU vals)=[D 8,vals 4,vals 9] by kernel_rfl]
    rw [show vals 4=.agg cx.toArray from ex,show vals 9=.agg cy.toArray from ey]
  · refine (Fv lo 8 x y cx cy u hC.lo_le hex hey).mono ?_
    rintro e u' ⟨cs,hcs,rfl,hb'⟩
    exact ⟨_,rfl,hC.below hlt hb',.of_below hb',_,cs,F7 (GI (op:=8) (by decide) (by decide) rfl) (show FT (max 1 n) [x,y] from ⟨hx,hy,trivial⟩),hcs,rfl⟩
set_option maxRecDepth 100000 in
theorem mU (hlt:b < w.heap.size) (IH:Bv b ns n) (hty:s∈BJ) (hn:h≤n) (hh:h≤100) (hl:-100≤h) (hr0:0≤rules) (hr1:rules≤10) (h0:a0.eval (.tmp 0)=ptr b 0) (h9:a0.eval (.tmp 9)=D h) (h3:a0.eval (.tmp 3)=D rules) (h5:a0.eval (.tmp 10)=ptr g 0) :
    Io Tryz.prog Em a0 LU (Dz b ns t s g (max 1 n) lo w) (Ae b) (Ja b (max 1 n) lo s a0) (Ja b (max 1 n) lo s a0):=
    ⟨Bg (Ae.refl b) (fun _ _ _ _=>by kernel_rfl),
     gr h5,
     Bg (Ae.refl b) (fun _ _ _ _=>by kernel_rfl),
     Bg (Ae.refl b) (fun _ _ _ _=>by kernel_rfl),
     gq hlt IH hty hn hh hl hr0 hr1 h0 h9 h3,
     Bg (Ae.refl b) (fun _ _ _ _=>by kernel_rfl),
     gp h5,
     Bg (Ae.refl b) (fun _ _ _ _=>by kernel_rfl),
     Bg (Ae.refl b) (fun _ _ _ _=>by kernel_rfl),
     gm hlt IH hty hn hh hl hr0 hr1 h0 h9 h3,
     bh hlt,trivial⟩
set_option maxHeartbeats 400000 in
set_option maxRecDepth 100000 in
theorem gY (hlt:b < w.heap.size) (IH:Bv b ns n) (hty:s∈BJ) (hn:h≤n) (hh:h≤100) (hl:-100≤h) (hr0:0≤rules) (hr1:rules≤10) (hs:a0.tmps.size=275) (h0:a0.eval (.tmp 0)=ptr b 0) (h9:a0.eval (.tmp 9)=D h) (h3:a0.eval (.tmp 3)=D rules) (h5:a0.eval (.tmp 10)=ptr g 0) (h8:a0.eval (.tmp 8)=ptr (w.heap.size + 1) 0)
    {wk:World} (hA:Dz b ns t s g (max 1 n) lo w wk) {Q:Exit→Act→World→Prop}
    (hQ:∀ a' u x cs,a'.eval (.tmp 8)=ptr (w.heap.size + 1) 0→a'.defers=a0.defers→Dz b ns t s g (max 1 n) lo w u→Dr (max 1 n + 1) x→BX lo u x cs→Q .normal a' (u.setCells (w.heap.size + 1) 0 cs)) :
    (Code.region 41 Em true).wp Tryz.prog Q a0 wk:=by
  refine wp_region_any (by kernel_rfl) ?_
  have hsz:Em.size=12:=by kernel_rfl
  rw [hsz]
  have hd:Dz b ns t s g (max 1 n) lo w { wk with drawn:=wk.drawn + 1 }:=hA.below hlt (Below.refl _ _).drew
  let z0:=Ja b (max 1 n) lo s a0
  refine IZ (fuel:=1) (L:=z0) (W:=LU) (C:=Dz b ns t s g (max 1 n) lo w) (Ext:=Ae b) (wi b (max 1 n) lo s a0 hs) hd (Ae.refl b) (fun _ _ _=>Ae.trans)
    (mU hlt IH hty hn hh hl hr0 hr1 h0 h9 h3 h5) ?_
  intro vals u hC _ hall
  obtain ⟨_,_,_,_,_,_,_,_,_,_,⟨x,cs,hx,hex,ecs⟩,_⟩:=hall
  have r1:Region.ready .any Em ((z0.map (·.idx)).foldl (fun b i=>b.setIfInBounds i true) (Array.replicate 12 false))=[11]:=by kernel_rfl
  have r2:Region.ready .any Em (((z0.map (·.idx)).foldl (fun b i=>b.setIfInBounds i true) (Array.replicate 12 false)).setIfInBounds 11 true)=[]:=by kernel_rfl
  have e8:(Ey Em vals (z0.map (·.idx)) a0).eval (.tmp 8)=ptr (w.heap.size + 1) 0:=(JU 8 (by kernel_rfl)).trans h8
  have ev:(Ey Em vals (z0.map (·.idx)) a0).eval (.tmp 263)=.agg cs.toArray:=
    (LL 263 10 (by kernel_rfl) (by rw [hs]; decide)).trans ecs
  have ed:=(HM Em vals (z0.map (·.idx)) a0).2
  generalize Ey Em vals (z0.map (·.idx)) a0=aF at *
  generalize (z0.map (·.idx)).foldl (fun b i=>b.setIfInBounds i true) (Array.replicate 12 false)=lst at *
  have hop:(Em.getD 11 default).op=.store 32 (.tmp 8) (.tmp 263):=by kernel_rfl
  have hdst:(Em.getD 11 default).dst=none:=by kernel_rfl
  have hgu:(Em.getD 11 default).guard=none:=by kernel_rfl
  have hat:Em[11]?=some (Em.getD 11 default):=by kernel_rfl
  generalize Em.getD 11 default=oS at *
  refine KM r1 hat hgu r2 ?_
  have hcs:=hex
  obtain ⟨x0,x1,x2,x3,x4,x5,x6,x7,x8,A,kn,kc,rfl⟩:=hcs.cells'
  refine wp_store_mid 32 (.tmp 8) (.tmp 263) hop (w.heap.size + 1) 0 _ e8 ev ?_ (by kernel_rfl) ?_ ?_
  · exact Ej hC.st.res 0 _ (by simp [JV])
  · simp [Value.oneCell']
  · rw [hdst]
    exact hQ _ u x _ e8 ed hC hx hex
end
end
end Go.Proofs.YtmcpjkcggfmcmaaGreatDoor

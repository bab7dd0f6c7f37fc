/-
  Part 45 of a proof: contracts of functions.
-/
import Derived.Test.YtmcpjkcggfmcmaaGreatDoorD44
import Derived.Test.YtmcpjkcggfmcmaaGreatDoorD42
import Derived.IntWalk
set_option linter.all false
namespace Go.Proofs.YtmcpjkcggfmcmaaGreatDoor
noncomputable section
open Go.RowKit
theorem Pf:(Tryz.prog.info? 34).map (fun i=>(i.zero,i.size,i.bytes))=some (some (.agg Fk.toArray),21,216):=by kernel_rfl
def ND (m:Nat) (S:Nat→Prop) (v:Value) (u:World):Prop:=∃ x cs,Dr m x∧D2 S u x cs∧v=.agg cs.toArray
def GM (H:Nat) (S:Nat→Prop) (v:Value) (u:World):Prop:=∃ d cs,F4 H d∧Fp S u d cs∧v=.agg cs.toArray
def IV (H:Nat) (S:Nat→Prop) (b n:Nat) (v:Value) (u:World):Prop:=∃ (q:List (List Value)) (B:Nat),Fn (F4 H) S u q∧q.length=n∧v=.slice (some ⟨B,0,none⟩) n n∧u.heap[B]?=some (.cells q.flatten.toArray 34 (0,0))∧B≠b
theorem Ls {H:Nat} {S:Nat→Prop} {u:World} {q:List (List Value)} (h:Fn (F4 H) S u q):∀ x∈q.flatten,x.oneCell'=true:=by
  intro x b
  obtain ⟨r,hr,a⟩:=List.mem_flatten.1 b
  obtain ⟨d,_,h2⟩:=h r hr
  obtain ⟨_,_,_,_,_,_,_,_,_,_,_,_,_,_,rfl⟩:=h2.cells
  simp only [List.mem_cons,List.not_mem_nil,or_false] at a
  rcases a with rfl | rfl | rfl | rfl | rfl | rfl | rfl | rfl | rfl | rfl | rfl | rfl | rfl | rfl | rfl | rfl | rfl | rfl | rfl | rfl | rfl <;> rfl
def rK:List (List UInt8):=[[114,49],[114,50],[114,51],[114,52]]
def L7:List (Bool×Int×Int×Int):=[Cd,Cc,Ds,BU]
def EE (i:Nat):Value:=.string ⟨(rK.getD i []).toArray⟩
def Gj (i:Nat):Value:=Cl (L7.getD i BU)
def Gz (g:Nat):Value:=.slice (some ⟨g,0,none⟩) 4 4
def XN (gN gT:Nat):List BI:=[⟨gN,0,[EE 0,EE 1,EE 2,EE 3],9,true⟩,⟨gT,0,[.bool false,D 1,D (-1),D 0,.bool false,D 1,D 0,D 0,.bool true,D 0,D 0,D 0,.bool false,D 0,D 0,D 0],26,true⟩]
def DD (b:Nat) (w:World) (H:Nat) (wl:Bool):List (Nat×Value):=[(0,pt b 0),(1,D H),(2,.bool wl),(6,pt w.heap.size 0),(7,pt (w.heap.size + 1) 0)]
def GT (b:Nat) (w:World) (H:Nat) (wl:Bool) (gN gT i:Nat) (rules k:Int):List (Nat×Value):=DD b w H wl++[(8,Gz gN),(9,Gz gT),(10,D i),(11,D rules),(12,D k)]
def GC (b:Nat) (w:World) (H:Nat) (wl:Bool) (i:Nat):List (Nat×Value):=DD b w H wl++[(13,D i)]
def SM (i:Nat) (frm:Int) (x:Ex):Df:=⟨3,rK.getD i [],(L7.getD i BU).1,(L7.getD i BU).2.1,(L7.getD i BU).2.2.1,(L7.getD i BU).2.2.2,frm,[],x,0,0,0⟩
theorem ic {H i:Nat} {frm:Int} {x:Ex} (hi:i=0∨i=1∨i=2∨i=3) (c:0≤frm) (b:frm≤30000) (a:Dr H x):F4 H (SM i frm x):=by
  unfold F4 SM
  rcases hi with rfl | rfl | rfl | rfl <;> simp [rK,L7,Cd,Cc,Ds,BU,c,b,a]
theorem mM {i:Nat} (hi:i=0∨i=1∨i=2∨i=3):L7.getD i BU∈BJ:=by
  rcases hi with rfl | rfl | rfl | rfl <;> simp [L7,BJ]
def rJ:List (List UInt8):=[[97],[98]]
def IF (i:Nat):Value:=.string ⟨(rJ.getD i []).toArray⟩
def K0:List (Int×Int):=[(1,100),(1,20),(1,1)]
def ZQ (i:Nat) (x:Ex) (mode num den:Int):Df:=⟨4,rJ.getD i [],false,0,0,0,20454,[],x,mode,num,den⟩
theorem mo {H i:Nat} {x:Ex} {mode num den:Int} (hi:i=0∨i=1) (a:Dr H x) (c:0≤mode) (b:mode≤6) (hs:(num,den)∈K0):F4 H (ZQ i x mode num den):=by
  have h2:0≤num∧num≤100∧0≤den∧den≤100:=by
    simp only [K0,List.mem_cons,List.not_mem_nil,or_false,Prod.mk.injEq] at hs; omega
  unfold F4 ZQ
  rcases hi with rfl | rfl <;> simp [rJ,a,c,b,h2]
def Te (b:Nat) (l:List Value) (T:TypeId) (o:Nat) (v:Value) (u:World):Prop:=∃ B,v=pt B o∧u.heap[B]?=some (.cells l.toArray T (0,0))∧B≠b
def bM (b:Nat) (v:Value) (u:World):Prop:=∃ k:Nat,k < 3∧Te b (Et [1,100,1,20,1,1]) 29 (k * 2) v u
def bL (v:Value):Prop:=∃ x,x∈K0∧v=Jk x.1 x.2
section
variable {b:Nat} {ns:List Int} {H:Nat} {w:World} {r:List Value} {v:Value} {X:List BI} {rs:List (List Value)} {wx:World} {wl:Bool} {E:Nat→Value}
theorem MY {m:Nat} {a:Value} {u d:World} (c:b < w.heap.size) (h:ND m (SA w v X) a u) (he:Ae b u d):ND m (SA w v X) a d:=by
  obtain ⟨x,cs,i,f,e⟩:=h
  exact ⟨x,cs,i,D2.keep he.size (fun g j hl=>SA.keep c he j hl) _ _ f,e⟩
theorem G4 {a:Value} {u d:World} (c:b < w.heap.size) (h:GM (max 1 H) (SA w v X) a u) (he:Ae b u d):GM (max 1 H) (SA w v X) a d:=by
  obtain ⟨x,cs,i,f,e⟩:=h
  exact ⟨x,cs,i,f.keep he.size (fun g j hl=>SA.keep c he j hl),e⟩
theorem Hh {n:Nat} {a:Value} {u d:World} (c:b < w.heap.size) (h:IV (max 1 H) (SA w v X) b n a u) (he:Ae b u d):IV (max 1 H) (SA w v X) b n a d:=by
  obtain ⟨q,B,k,j,i,f,e⟩:=h
  exact ⟨q,B,k.keep he.size (fun g l hl=>SA.keep c he l hl),j,i,(he.block _ (Ak f) e).trans f,e⟩
def FI:Array Oper:=ID Tryz.f12 3
def d8:Wr:=[(29,0),(30,1),(31,2),(32,3),(33,4),(34,5),(35,6),(36,7),(37,8)]
def Kh (b H:Nat) (w:World) (v:Value) (X:List BI):List Ci:=
  [AN 0 [] (.pointer (some ⟨w.heap.size + 1,1,none⟩)),
   AN 1 [0] v,
   AN 2 [] (pt b 0),
   AN 3 [] (Cl Cd),
   ⟨4,[2,3],[4],fun vs u=>GM (max 1 H) (SA w v X) (vs.getD 0 undef) u⟩,
   AN 5 [] (pt b 0),
   AN 6 [2,3,4] (Cl BU),
   ⟨7,[2,3,4,5,6],[7],fun vs u=>GM (max 1 H) (SA w v X) (vs.getD 0 undef) u⟩,
   ⟨8,[2,3,4,5,6,7],[8],fun vs u=>IV (max 1 H) (SA w v X) b 2 (vs.getD 0 undef) u⟩]
theorem wg (b H:Nat) (w:World) (v:Value) (X:List BI):(EY .any FI d8 (Array.replicate 12 false) 168 (Kh b H w v X) && bare FI (Kh b H w v X))=true:=by kernel_rfl
set_option maxRecDepth 100000 in
set_option maxHeartbeats 1000000 in
theorem mS (hlt:b < w.heap.size):GW Tryz.prog FI 168 (Aw E (DD b w H wl)) d8 (fun u=>Ag b ns (max 1 H) w r v v X rs u) (Ae b) (Kh b H w v X) (Kh b H w v X):=by
  refine ⟨BF (Ae.refl b) (fun _ _ _ _=>by kernel_rfl),?_,BF (Ae.refl b) (fun _ _ _ _=>by kernel_rfl),?_,?_,BF (Ae.refl b) (fun _ _ _ _=>by kernel_rfl),?_,?_,?_,trivial⟩
  · refine ⟨fun _ _ _ _ _ h=>h,fun vals u hC hb=>?_⟩
    obtain ⟨h0,_⟩:=hb
    exact AH.knownE [(29,0,(.pointer (some ⟨w.heap.size + 1,1,none⟩)))] (by kernel_rfl) ⟨(List.cons.inj h0).1,trivial⟩ (AH.reads ⟨0,BM w r v X,(1,1),[]⟩ hC.ph.lies.sat.good v ⟨hC,.refl _ _,rfl⟩)
  · refine ⟨fun _ _ _ _ _ h=>h,fun vals u hC hb=>?_⟩
    refine AH.call (f:=33) [] (args:=[]) (ats:=#[]) rfl rfl (BW _ _) ?_
    refine (Fx u).mono ?_
    rintro e u' ⟨rfl,hb'⟩
    exact ⟨_,rfl,hC.below hb',.of_below hb',rfl⟩
  · refine ⟨fun _ u u' _ he h=>G4 hlt h he,fun vals u hC hb=>?_⟩
    obtain ⟨h2,h3,_⟩:=hb
    refine AH.call (f:=32) [.tmp 31,.const (.string ⟨#[119]⟩),.tmp 32,.const (D 20454)] (args:=[pt b 0,.string ⟨[119].toArray⟩,Cl Cd,D 20454]) (ats:=#[57,9,26,3]) rfl ?_ (BW _ _) ?_
    · rw [show [.tmp 31,.const (.string ⟨#[119]⟩),.tmp 32,.const (D 20454)].map (C0 168 (Aw E (DD b w H wl)) d8 vals)=[vals 2,.string ⟨[119].toArray⟩,vals 3,D 20454] by kernel_rfl,(List.cons.inj h2).1,(List.cons.inj h3).1]
    · refine (MX (b:=b) (ns:=ns) (nm:=[119]) (tb:=Cd.1) (tm:=Cd.2.1) (th:=Cd.2.2.1) (td:=Cd.2.2.2) (frm:=20454) (w:=u) hC.ph.tape).mono ?_
      rintro e u' ⟨d,cs,⟨⟨k1,k2,k3,k4,k5,k6,k7⟩,m1,m2,m3,m4,m5,m6⟩,hdf,rfl,hT,hB⟩
      have m3':d.tm=Cd.2.1:=m3
      have m4':d.th=Cd.2.2.1:=m4
      have m5':d.td=Cd.2.2.2:=m5
      refine ⟨_,rfl,hC.call hT hB,hB,d,cs,⟨by omega,by omega,by rw [m1]; decide,by rw [m3']; decide,by rw [m3']; decide,by rw [m4']; decide,by rw [m4']; decide,by rw [m5']; decide,by rw [m5']; decide,by omega,by omega,k6,k7,.inl k2,fun h=>(by omega),by omega,by omega,by omega,by omega,by omega,by omega⟩,?_,rfl⟩
      exact Fp.of hdf (fun g hg _=>hC.fresh hg)
  · refine ⟨fun _ _ _ _ _ h=>h,fun vals u hC hb=>?_⟩
    refine AH.call (f:=34) [] (args:=[]) (ats:=#[]) rfl rfl (BW _ _) ?_
    refine (F5 u).mono ?_
    rintro e u' ⟨rfl,hb'⟩
    exact ⟨_,rfl,hC.below hb',.of_below hb',rfl⟩
  · refine ⟨fun _ u u' _ he h=>G4 hlt h he,fun vals u hC hb=>?_⟩
    obtain ⟨_,_,_,h5,h6,_⟩:=hb
    refine AH.call (f:=32) [.tmp 34,.const (.string ⟨#[115]⟩),.tmp 35,.const (D 20454)] (args:=[pt b 0,.string ⟨[115].toArray⟩,Cl BU,D 20454]) (ats:=#[57,9,26,3]) rfl ?_ (BW _ _) ?_
    · rw [show [.tmp 34,.const (.string ⟨#[115]⟩),.tmp 35,.const (D 20454)].map (C0 168 (Aw E (DD b w H wl)) d8 vals)=[vals 5,.string ⟨[115].toArray⟩,vals 6,D 20454] by kernel_rfl,(List.cons.inj h5).1,(List.cons.inj h6).1]
    · refine (MX (b:=b) (ns:=ns) (nm:=[115]) (tb:=BU.1) (tm:=BU.2.1) (th:=BU.2.2.1) (td:=BU.2.2.2) (frm:=20454) (w:=u) hC.ph.tape).mono ?_
      rintro e u' ⟨d,cs,⟨⟨k1,k2,k3,k4,k5,k6,k7⟩,m1,m2,m3,m4,m5,m6⟩,hdf,rfl,hT,hB⟩
      have m3':d.tm=BU.2.1:=m3
      have m4':d.th=BU.2.2.1:=m4
      have m5':d.td=BU.2.2.2:=m5
      refine ⟨_,rfl,hC.call hT hB,hB,d,cs,⟨by omega,by omega,by rw [m1]; decide,by rw [m3']; decide,by rw [m3']; decide,by rw [m4']; decide,by rw [m4']; decide,by rw [m5']; decide,by rw [m5']; decide,by omega,by omega,k6,k7,.inl k2,fun h=>(by omega),by omega,by omega,by omega,by omega,by omega,by omega⟩,?_,rfl⟩
      exact Fp.of hdf (fun g hg _=>hC.fresh hg)
  · refine ⟨fun _ u u' _ he h=>Hh hlt h he,fun vals u hC hb=>?_⟩
    obtain ⟨_,_,⟨d0,c0,hd0,hc0,e0⟩,_,_,⟨d1,c1,hd1,hc1,e1⟩,_⟩:=hb
    have hal:Below u.heap.size u (u.alloc (.cells [c0,c1].flatten.toArray 34)):=(Below.refl _ _).alloc (Nat.le_refl _) _
    obtain ⟨z0_0,z0_1,z0_2,z0_3,z0_4,z0_5,z0_6,z0_7,z0_8,z0_9,z0_10,z0_11,z0_12,z0_13,rfl⟩:=hc0.cells
    obtain ⟨z1_0,z1_1,z1_2,z1_3,z1_4,z1_5,z1_6,z1_7,z1_8,z1_9,z1_10,z1_11,z1_12,z1_13,rfl⟩:=hc1.cells
    let z0:List Value:=[D d0.kind,.string ⟨d0.name.toArray⟩,.bool d0.tb,D d0.tm,D d0.th,D d0.td,D d0.frm,.slice z0_0 d0.ents.length z0_1,D z0_2,D z0_3,D z0_4,D z0_5,D z0_6,D z0_7,.string ⟨z0_8.toArray⟩,D z0_9,D z0_10,.slice z0_11 z0_12 z0_13,D d0.mode,D d0.num,D d0.den]
    let z1:List Value:=[D d1.kind,.string ⟨d1.name.toArray⟩,.bool d1.tb,D d1.tm,D d1.th,D d1.td,D d1.frm,.slice z1_0 d1.ents.length z1_1,D z1_2,D z1_3,D z1_4,D z1_5,D z1_6,D z1_7,.string ⟨z1_8.toArray⟩,D z1_9,D z1_10,.slice z1_11 z1_12 z1_13,D d1.mode,D d1.num,D d1.den]
    refine AH.knownE [(33,4,.agg (z0:List Value).toArray),(36,7,.agg (z1:List Value).toArray)] (by kernel_rfl) ⟨e0,e1,trivial⟩ (AH.value (v:=.slice (some ⟨u.heap.size,0,none⟩) 2 2) (w':=u.alloc (.cells [(z0:List Value),(z1:List Value)].flatten.toArray 34)) ⟨hC.below hal,.of_below hal,[(z0:List Value),(z1:List Value)],u.heap.size,?_,rfl,rfl,heap_alloc_new _ _,?_⟩)
    · intro row hrow
      simp only [List.mem_cons,List.not_mem_nil,or_false] at hrow
      rcases hrow with rfl | rfl
      · exact ⟨d0,hd0,hc0.keep (by simp) (fun g hS hl=>⟨hS,D8 _ _ _ hl⟩)⟩
      · exact ⟨d1,hd1,hc1.keep (by simp) (fun g hS hl=>⟨hS,D8 _ _ _ hl⟩)⟩
    · have:=hC.ph.tape.lt; omega
set_option maxRecDepth 100000 in
set_option maxHeartbeats 1000000 in
theorem gX (hA:Ag b ns (max 1 H) w r v v X rs wx) (hrs:rs.length≤100) {R:Ending→World→Prop} {td:List Item} (hd:Fc td=some FI)
    (hk:∀ v' q u E',Ag b ns (max 1 H) w r v' v' X (rs++q) u→q.length=2→At Tryz.prog 12 R (AP td) (Fr 168 (Aw E' (DD b w H wl))) u) :
    At Tryz.prog 12 R td (Fr 168 (Aw E (DD b w H wl))) wx:=by
  have hlt:=hA.ph.lt
  refine C4 FI (hd:=hd) 12 ?_
  refine CG (fuel:=3) (L:=(Kh b H w v X)) (W:=d8) (C:=(fun u=>Ag b ns (max 1 H) w r v v X rs u)) (Ext:=Ae b) (hok:=(wg b H w v X)) (hA.below (Below.refl _ _).drew) (Ae.refl b) (fun _ _ _=>Ae.trans) (mS hlt) rfl ?_
  intro vals u hC _ hall
  obtain ⟨_,e1,_,_,_,_,_,_,⟨q,B,hq,hql,eB,hB,_⟩,_⟩:=hall
  let z0:=Array.replicate 12 false
  have r1:Region.ready .any FI (((Kh b H w v X).map (·.idx)).foldl (fun b i=>b.setIfInBounds i true) z0)=[9]:=by kernel_rfl
  have r2:Region.ready .any FI ((((Kh b H w v X).map (·.idx)).foldl (fun b i=>b.setIfInBounds i true) z0).setIfInBounds 9 true)=[10]:=by kernel_rfl
  have r3:Region.ready .any FI (((((Kh b H w v X).map (·.idx)).foldl (fun b i=>b.setIfInBounds i true) z0).setIfInBounds 9 true).setIfInBounds 10 true)=[11]:=by kernel_rfl
  have r4:Region.ready .any FI ((((((Kh b H w v X).map (·.idx)).foldl (fun b i=>b.setIfInBounds i true) z0).setIfInBounds 9 true).setIfInBounds 10 true).setIfInBounds 11 true)=[]:=by kernel_rfl
  have q1:BN 168 (Eu FI vals ((Kh b H w v X).map (·.idx)) (Aw E (DD b w H wl))) (.tmp 30)=vals 1:=by kernel_rfl
  have q2:BN 168 (Eu FI vals ((Kh b H w v X).map (·.idx)) (Aw E (DD b w H wl))) (.tmp 37)=vals 8:=by kernel_rfl
  have qs:(DD b w H wl).map (fun p=>(Eu FI vals ((Kh b H w v X).map (·.idx)) (Aw E (DD b w H wl))) p.1)=(DD b w H wl).map (·.2):=by kernel_rfl
  generalize (((Kh b H w v X).map (·.idx)).foldl (fun b i=>b.setIfInBounds i true) z0)=lst at *
  generalize (Eu FI vals ((Kh b H w v X).map (·.idx)) (Aw E (DD b w H wl)))=E8 at *
  refine Gs (fuel:=2) r1 (show FI[9]?=some (FI.getD 9 default) by kernel_rfl) (by kernel_rfl) ?_
  have hsz:w.heap.size + 2≤u.heap.size:=by
    have:=(hC.ph.lies.sat.good ⟨w.heap.size + 1,0,[Hl,v],38,true⟩ (by simp [BM])).1
    simp only at this
    omega
  refine Jp (.tmp 30) (.tmp 37) 36 (by kernel_rfl) (w.heap.size + 2) 34 (by kernel_rfl) Pf (by rfl) (by decide) v rs.length rs.flatten (by rw [Cm,q1]; exact (List.cons.inj e1).1) hC.own ⟨B,0,none⟩ 2 2 q.flatten (by rw [Cm,q2]; exact eB) (by rw [I9 hq.len,hql]) ?_ (Ls hq) (by decide) (by unfold maxLen; omega) (by omega) hsz ?_
  · intro jj uu hju
    rw [Addr.add_mid]
    exact H1 hB jj uu hju
  · intro v' u2 O8 hg8 hw8
    have A8:=hC.append hq (by rw [hql]; exact O8) hg8 hw8
    obtain ⟨wA,wc,rfl⟩:=Ge O8
    rw [show (FI.getD 9 default).dst=some 38 by kernel_rfl,Dy,← Fy qs]
    refine FL (fuel:=1) (FI.getD 10 default) ⟨u2.heap.size,BM w r v X,(0,0),[]⟩ ⟨u2.heap.size,BM w r v X,(0,0),[]⟩ (.value (.pointer (some ⟨w.heap.size + 1,1,none⟩))) (.pointer (some ⟨w.heap.size + 1,1,none⟩)) r2 (.inl rfl) A8.ph.lies rfl fun u3 hL9 hK9=>?_
    have A9:=A8.run hK9 hL9 (fun e he=>.inl ⟨e,he,rfl⟩)
    rw [show (FI.getD 10 default).dst=some 39 by kernel_rfl]
    refine FL (fuel:=0) (FI.getD 11 default) ⟨u3.heap.size,BM w r v X,(1,1),[]⟩ ⟨u3.heap.size,BM w r (.slice wA (rs.length + 2) wc) X,(1,2),[(w.heap.size + 1,w.heap.size + 1),(1,1)]⟩ .skip undef r3 (.inr ⟨rfl,rfl⟩) ⟨A9.ph.lies.sat,A9.ph.lies.le,A9.ph.lies.own⟩ rfl fun u4 hL10 hK10=>?_
    have A10:=A9.run hK10 hL10 (fun e he=>.inl ⟨e,he,rfl⟩)
    rw [show (FI.getD 11 default).dst=none by kernel_rfl]
    refine Cy (hr:=r4) ⟨rfl,At.mid ?_⟩
    exact EQ (DD b w H wl) (by kernel_rfl) fun E'=>hk _ q u4 E' A10 hql
def FH:Array Oper:=ID Tryz.f12 5
def l4:Wr:=[(43,0),(44,1),(45,2),(46,3),(47,4),(48,5)]
def Kg (b H:Nat) (w:World) (v:Value) (X:List BI):List Ci:=
  [AN 0 [] (.pointer (some ⟨w.heap.size + 1,1,none⟩)),
   AN 1 [0] v,
   AN 2 [] (pt b 0),
   AN 3 [] (Cl Cd),
   ⟨4,[2,3],[4],fun vs u=>GM (max 1 H) (SA w v X) (vs.getD 0 undef) u⟩,
   ⟨5,[2,3,4],[5],fun vs u=>IV (max 1 H) (SA w v X) b 1 (vs.getD 0 undef) u⟩]
theorem wd (b H:Nat) (w:World) (v:Value) (X:List BI):(EY .any FH l4 (Array.replicate 9 false) 168 (Kg b H w v X) && bare FH (Kg b H w v X))=true:=by kernel_rfl
set_option maxRecDepth 100000 in
set_option maxHeartbeats 1000000 in
theorem mR (hlt:b < w.heap.size):GW Tryz.prog FH 168 (Aw E (DD b w H wl)) l4 (fun u=>Ag b ns (max 1 H) w r v v X rs u) (Ae b) (Kg b H w v X) (Kg b H w v X):=by
  refine ⟨BF (Ae.refl b) (fun _ _ _ _=>by kernel_rfl),?_,BF (Ae.refl b) (fun _ _ _ _=>by kernel_rfl),?_,?_,?_,trivial⟩
  · refine ⟨fun _ _ _ _ _ h=>h,fun vals u hC hb=>?_⟩
    obtain ⟨h0,_⟩:=hb
    exact AH.knownE [(43,0,(.pointer (some ⟨w.heap.size + 1,1,none⟩)))] (by kernel_rfl) ⟨(List.cons.inj h0).1,trivial⟩ (AH.reads ⟨0,BM w r v X,(1,1),[]⟩ hC.ph.lies.sat.good v ⟨hC,.refl _ _,rfl⟩)
  · refine ⟨fun _ _ _ _ _ h=>h,fun vals u hC hb=>?_⟩
    refine AH.call (f:=33) [] (args:=[]) (ats:=#[]) rfl rfl (BW _ _) ?_
    refine (Fx u).mono ?_
    rintro e u' ⟨rfl,hb'⟩
    exact ⟨_,rfl,hC.below hb',.of_below hb',rfl⟩
  · refine ⟨fun _ u u' _ he h=>G4 hlt h he,fun vals u hC hb=>?_⟩
    obtain ⟨h2,h3,_⟩:=hb
    refine AH.call (f:=32) [.tmp 45,.const (.string ⟨#[119]⟩),.tmp 46,.const (D 20459)] (args:=[pt b 0,.string ⟨[119].toArray⟩,Cl Cd,D 20459]) (ats:=#[57,9,26,3]) rfl ?_ (BW _ _) ?_
    · rw [show [.tmp 45,.const (.string ⟨#[119]⟩),.tmp 46,.const (D 20459)].map (C0 168 (Aw E (DD b w H wl)) l4 vals)=[vals 2,.string ⟨[119].toArray⟩,vals 3,D 20459] by kernel_rfl,(List.cons.inj h2).1,(List.cons.inj h3).1]
    · refine (MX (b:=b) (ns:=ns) (nm:=[119]) (tb:=Cd.1) (tm:=Cd.2.1) (th:=Cd.2.2.1) (td:=Cd.2.2.2) (frm:=20459) (w:=u) hC.ph.tape).mono ?_
      rintro e u' ⟨d,cs,⟨⟨k1,k2,k3,k4,k5,k6,k7⟩,m1,m2,m3,m4,m5,m6⟩,hdf,rfl,hT,hB⟩
      have m3':d.tm=Cd.2.1:=m3
      have m4':d.th=Cd.2.2.1:=m4
      have m5':d.td=Cd.2.2.2:=m5
      refine ⟨_,rfl,hC.call hT hB,hB,d,cs,⟨by omega,by omega,by rw [m1]; decide,by rw [m3']; decide,by rw [m3']; decide,by rw [m4']; decide,by rw [m4']; decide,by rw [m5']; decide,by rw [m5']; decide,by omega,by omega,k6,k7,.inl k2,fun h=>(by omega),by omega,by omega,by omega,by omega,by omega,by omega⟩,?_,rfl⟩
      exact Fp.of hdf (fun g hg _=>hC.fresh hg)
  · refine ⟨fun _ u u' _ he h=>Hh hlt h he,fun vals u hC hb=>?_⟩
    obtain ⟨_,_,⟨d0,c0,hd0,hc0,e0⟩,_⟩:=hb
    have hal:Below u.heap.size u (u.alloc (.cells [c0].flatten.toArray 34)):=(Below.refl _ _).alloc (Nat.le_refl _) _
    obtain ⟨z0_0,z0_1,z0_2,z0_3,z0_4,z0_5,z0_6,z0_7,z0_8,z0_9,z0_10,z0_11,z0_12,z0_13,rfl⟩:=hc0.cells
    let z0:List Value:=[D d0.kind,.string ⟨d0.name.toArray⟩,.bool d0.tb,D d0.tm,D d0.th,D d0.td,D d0.frm,.slice z0_0 d0.ents.length z0_1,D z0_2,D z0_3,D z0_4,D z0_5,D z0_6,D z0_7,.string ⟨z0_8.toArray⟩,D z0_9,D z0_10,.slice z0_11 z0_12 z0_13,D d0.mode,D d0.num,D d0.den]
    refine AH.knownE [(47,4,.agg (z0:List Value).toArray)] (by kernel_rfl) ⟨e0,trivial⟩ (AH.value (v:=.slice (some ⟨u.heap.size,0,none⟩) 1 1) (w':=u.alloc (.cells [(z0:List Value)].flatten.toArray 34)) ⟨hC.below hal,.of_below hal,[(z0:List Value)],u.heap.size,?_,rfl,rfl,heap_alloc_new _ _,?_⟩)
    · intro row hrow
      simp only [List.mem_cons,List.not_mem_nil,or_false] at hrow
      rcases hrow with rfl
      · exact ⟨d0,hd0,hc0.keep (by simp) (fun g hS hl=>⟨hS,D8 _ _ _ hl⟩)⟩
    · have:=hC.ph.tape.lt; omega
set_option maxRecDepth 100000 in
set_option maxHeartbeats 1000000 in
theorem gW (hA:Ag b ns (max 1 H) w r v v X rs wx) (hrs:rs.length≤100) {R:Ending→World→Prop} {td:List Item} (hd:Fc td=some FH)
    (hk:∀ v' q u E',Ag b ns (max 1 H) w r v' v' X (rs++q) u→q.length=1→At Tryz.prog 12 R (AP td) (Fr 168 (Aw E' (DD b w H wl))) u) :
    At Tryz.prog 12 R td (Fr 168 (Aw E (DD b w H wl))) wx:=by
  have hlt:=hA.ph.lt
  refine C4 FH (hd:=hd) 9 ?_
  refine CG (fuel:=3) (L:=(Kg b H w v X)) (W:=l4) (C:=(fun u=>Ag b ns (max 1 H) w r v v X rs u)) (Ext:=Ae b) (hok:=(wd b H w v X)) (hA.below (Below.refl _ _).drew) (Ae.refl b) (fun _ _ _=>Ae.trans) (mR hlt) rfl ?_
  intro vals u hC _ hall
  obtain ⟨_,e1,_,_,_,⟨q,B,hq,hql,eB,hB,_⟩,_⟩:=hall
  let z0:=Array.replicate 9 false
  have r1:Region.ready .any FH (((Kg b H w v X).map (·.idx)).foldl (fun b i=>b.setIfInBounds i true) z0)=[6]:=by kernel_rfl
  have r2:Region.ready .any FH ((((Kg b H w v X).map (·.idx)).foldl (fun b i=>b.setIfInBounds i true) z0).setIfInBounds 6 true)=[7]:=by kernel_rfl
  have r3:Region.ready .any FH (((((Kg b H w v X).map (·.idx)).foldl (fun b i=>b.setIfInBounds i true) z0).setIfInBounds 6 true).setIfInBounds 7 true)=[8]:=by kernel_rfl
  have r4:Region.ready .any FH ((((((Kg b H w v X).map (·.idx)).foldl (fun b i=>b.setIfInBounds i true) z0).setIfInBounds 6 true).setIfInBounds 7 true).setIfInBounds 8 true)=[]:=by kernel_rfl
  have q1:BN 168 (Eu FH vals ((Kg b H w v X).map (·.idx)) (Aw E (DD b w H wl))) (.tmp 44)=vals 1:=by kernel_rfl
  have q2:BN 168 (Eu FH vals ((Kg b H w v X).map (·.idx)) (Aw E (DD b w H wl))) (.tmp 48)=vals 5:=by kernel_rfl
  have qs:(DD b w H wl).map (fun p=>(Eu FH vals ((Kg b H w v X).map (·.idx)) (Aw E (DD b w H wl))) p.1)=(DD b w H wl).map (·.2):=by kernel_rfl
  generalize (((Kg b H w v X).map (·.idx)).foldl (fun b i=>b.setIfInBounds i true) z0)=lst at *
  generalize (Eu FH vals ((Kg b H w v X).map (·.idx)) (Aw E (DD b w H wl)))=E8 at *
  refine Gs (fuel:=2) r1 (show FH[6]?=some (FH.getD 6 default) by kernel_rfl) (by kernel_rfl) ?_
  have hsz:w.heap.size + 2≤u.heap.size:=by
    have:=(hC.ph.lies.sat.good ⟨w.heap.size + 1,0,[Hl,v],38,true⟩ (by simp [BM])).1
    simp only at this
    omega
  refine Jp (.tmp 44) (.tmp 48) 36 (by kernel_rfl) (w.heap.size + 2) 34 (by kernel_rfl) Pf (by rfl) (by decide) v rs.length rs.flatten (by rw [Cm,q1]; exact (List.cons.inj e1).1) hC.own ⟨B,0,none⟩ 1 1 q.flatten (by rw [Cm,q2]; exact eB) (by rw [I9 hq.len,hql]) ?_ (Ls hq) (by decide) (by unfold maxLen; omega) (by omega) hsz ?_
  · intro jj uu hju
    rw [Addr.add_mid]
    exact H1 hB jj uu hju
  · intro v' u2 O8 hg8 hw8
    have A8:=hC.append hq (by rw [hql]; exact O8) hg8 hw8
    obtain ⟨wA,wc,rfl⟩:=Ge O8
    rw [show (FH.getD 6 default).dst=some 49 by kernel_rfl,Dy,← Fy qs]
    refine FL (fuel:=1) (FH.getD 7 default) ⟨u2.heap.size,BM w r v X,(0,0),[]⟩ ⟨u2.heap.size,BM w r v X,(0,0),[]⟩ (.value (.pointer (some ⟨w.heap.size + 1,1,none⟩))) (.pointer (some ⟨w.heap.size + 1,1,none⟩)) r2 (.inl rfl) A8.ph.lies rfl fun u3 hL9 hK9=>?_
    have A9:=A8.run hK9 hL9 (fun e he=>.inl ⟨e,he,rfl⟩)
    rw [show (FH.getD 7 default).dst=some 50 by kernel_rfl]
    refine FL (fuel:=0) (FH.getD 8 default) ⟨u3.heap.size,BM w r v X,(1,1),[]⟩ ⟨u3.heap.size,BM w r (.slice wA (rs.length + 1) wc) X,(1,2),[(w.heap.size + 1,w.heap.size + 1),(1,1)]⟩ .skip undef r3 (.inr ⟨rfl,rfl⟩) ⟨A9.ph.lies.sat,A9.ph.lies.le,A9.ph.lies.own⟩ rfl fun u4 hL10 hK10=>?_
    have A10:=A9.run hK10 hL10 (fun e he=>.inl ⟨e,he,rfl⟩)
    rw [show (FH.getD 8 default).dst=none by kernel_rfl]
    refine Cy (hr:=r4) ⟨rfl,At.mid ?_⟩
    exact EQ (DD b w H wl) (by kernel_rfl) fun E'=>hk _ q u4 E' A10 hql
def ES:Array Oper:=ID Tryz.f12 16
def Zb:Wr:=[(76,0),(77,1),(78,2),(79,3),(80,4),(81,5),(82,6),(83,7),(84,8),(85,9),(86,10),(87,11),(88,12),(89,13),(90,14),(91,15),(92,16),(93,17),(94,18),(95,19),(96,20),(97,21),(98,22)]
def Ir (b H:Nat) (w:World) (v:Value) (X:List BI) (gN gT i:Nat) (rules k:Int):List Ci:=
  [AN 0 [] (.pointer (some ⟨w.heap.size + 1,1,none⟩)),
   AN 1 [0] v,
   AN 2 [] (Gz gN),
   AN 3 [] (D i),
   AN 4 [2,3] (pt gN i),
   AN 5 [2,3,4] (EE i),
   AN 6 [] (Gz gT),
   AN 7 [] (D i),
   AN 8 [6,7] (pt gT (i * 4)),
   AN 9 [6,7,8] (Gj i),
   AN 10 [] (D k),
   AN 11 [10] (D (IntKind.i64.wrap (5 * k))),
   AN 12 [10,11] (D (IntKind.i64.wrap (20454 + IntKind.i64.wrap (5 * k)))),
   AN 13 [] (pt b 0),
   AN 14 [] (Gz gT),
   AN 15 [] (D i),
   AN 16 [14,15] (pt gT (i * 4)),
   AN 17 [14,15,16] (Gj i),
   AN 18 [] (D H),
   AN 19 [] (D rules),
   ⟨20,[13,14,15,16,17,18,19],[20],fun vs u=>ND (max 1 H) (SA w v X) (vs.getD 0 undef) u⟩,
   ⟨21,[2,3,4,5,6,7,8,9,10,11,12,13,14,15,16,17,18,19,20],[21],fun vs u=>GM (max 1 H) (SA w v X) (vs.getD 0 undef) u⟩,
   ⟨22,[2,3,4,5,6,7,8,9,10,11,12,13,14,15,16,17,18,19,20,21],[22],fun vs u=>IV (max 1 H) (SA w v X) b 1 (vs.getD 0 undef) u⟩]
theorem uD (b H:Nat) (w:World) (v:Value) (X:List BI) (d c i:Nat) (a k:Int):(EY .any ES Zb (Array.replicate 26 false) 168 (Ir b H w v X d c i a k) && bare ES (Ir b H w v X d c i a k))=true:=by kernel_rfl
set_option maxRecDepth 100000 in
set_option maxHeartbeats 1000000 in
theorem gl (hlt:b < w.heap.size) {gN gT i:Nat} {rules k:Int} (IH:Bv b ns H) (hH:H≤100) (hi:i=0∨i=1∨i=2∨i=3) (hr0:0≤rules) (hr1:rules≤10) (hk0:0≤k) (hk1:k≤1):GW Tryz.prog ES 168 (Aw E (GT b w H wl gN gT i rules k)) Zb (fun u=>Ag b ns (max 1 H) w r v v (XN gN gT) rs u) (Ae b) (Ir b H w v (XN gN gT) gN gT i rules k) (Ir b H w v (XN gN gT) gN gT i rules k):=by
  refine ⟨BF (Ae.refl b) (fun _ _ _ _=>by kernel_rfl),?_,BF (Ae.refl b) (fun _ _ _ _=>by kernel_rfl),BF (Ae.refl b) (fun _ _ _ _=>by kernel_rfl),?_,?_,BF (Ae.refl b) (fun _ _ _ _=>by kernel_rfl),BF (Ae.refl b) (fun _ _ _ _=>by kernel_rfl),?_,?_,BF (Ae.refl b) (fun _ _ _ _=>by kernel_rfl),?_,?_,BF (Ae.refl b) (fun _ _ _ _=>by kernel_rfl),BF (Ae.refl b) (fun _ _ _ _=>by kernel_rfl),BF (Ae.refl b) (fun _ _ _ _=>by kernel_rfl),?_,?_,BF (Ae.refl b) (fun _ _ _ _=>by kernel_rfl),BF (Ae.refl b) (fun _ _ _ _=>by kernel_rfl),?_,?_,?_,trivial⟩
  · refine ⟨fun _ _ _ _ _ h=>h,fun vals u hC hb=>?_⟩
    obtain ⟨h0,_⟩:=hb
    exact AH.knownE [(76,0,(.pointer (some ⟨w.heap.size + 1,1,none⟩)))] (by kernel_rfl) ⟨(List.cons.inj h0).1,trivial⟩ (AH.reads ⟨0,BM w r v (XN gN gT),(1,1),[]⟩ hC.ph.lies.sat.good v ⟨hC,.refl _ _,rfl⟩)
  · refine ⟨fun _ _ _ _ _ h=>h,fun vals u hC hb=>?_⟩
    obtain ⟨h2,h3,_⟩:=hb
    rcases hi with rfl | rfl | rfl | rfl
    · exact AH.knownE [(78,2,Gz gN),(79,3,D ((0:Nat):Int))] (by kernel_rfl) ⟨(List.cons.inj h2).1,(List.cons.inj h3).1,trivial⟩ (AH.value (v:=(pt gN 0)) (w':=u) ⟨hC,.refl _ _,rfl⟩)
    · exact AH.knownE [(78,2,Gz gN),(79,3,D ((1:Nat):Int))] (by kernel_rfl) ⟨(List.cons.inj h2).1,(List.cons.inj h3).1,trivial⟩ (AH.value (v:=(pt gN 1)) (w':=u) ⟨hC,.refl _ _,rfl⟩)
    · exact AH.knownE [(78,2,Gz gN),(79,3,D ((2:Nat):Int))] (by kernel_rfl) ⟨(List.cons.inj h2).1,(List.cons.inj h3).1,trivial⟩ (AH.value (v:=(pt gN 2)) (w':=u) ⟨hC,.refl _ _,rfl⟩)
    · exact AH.knownE [(78,2,Gz gN),(79,3,D ((3:Nat):Int))] (by kernel_rfl) ⟨(List.cons.inj h2).1,(List.cons.inj h3).1,trivial⟩ (AH.value (v:=(pt gN 3)) (w':=u) ⟨hC,.refl _ _,rfl⟩)
  · refine ⟨fun _ _ _ _ _ h=>h,fun vals u hC hb=>?_⟩
    obtain ⟨_,_,h4,_⟩:=hb
    rcases hi with rfl | rfl | rfl | rfl
    · exact AH.knownE [(80,4,pt gN 0)] (by kernel_rfl) ⟨(List.cons.inj h4).1,trivial⟩ (AH.reads ⟨0,BM w r v (XN gN gT),(2,0),[]⟩ hC.ph.lies.sat.good (EE 0) ⟨hC,.refl _ _,rfl⟩)
    · exact AH.knownE [(80,4,pt gN 1)] (by kernel_rfl) ⟨(List.cons.inj h4).1,trivial⟩ (AH.reads ⟨0,BM w r v (XN gN gT),(2,1),[]⟩ hC.ph.lies.sat.good (EE 1) ⟨hC,.refl _ _,rfl⟩)
    · exact AH.knownE [(80,4,pt gN 2)] (by kernel_rfl) ⟨(List.cons.inj h4).1,trivial⟩ (AH.reads ⟨0,BM w r v (XN gN gT),(2,2),[]⟩ hC.ph.lies.sat.good (EE 2) ⟨hC,.refl _ _,rfl⟩)
    · exact AH.knownE [(80,4,pt gN 3)] (by kernel_rfl) ⟨(List.cons.inj h4).1,trivial⟩ (AH.reads ⟨0,BM w r v (XN gN gT),(2,3),[]⟩ hC.ph.lies.sat.good (EE 3) ⟨hC,.refl _ _,rfl⟩)
  · refine ⟨fun _ _ _ _ _ h=>h,fun vals u hC hb=>?_⟩
    obtain ⟨h6,h7,_⟩:=hb
    rcases hi with rfl | rfl | rfl | rfl
    · exact AH.knownE [(82,6,Gz gT),(83,7,D ((0:Nat):Int))] (by kernel_rfl) ⟨(List.cons.inj h6).1,(List.cons.inj h7).1,trivial⟩ (AH.value (v:=(pt gT (0 * 4))) (w':=u) ⟨hC,.refl _ _,rfl⟩)
    · exact AH.knownE [(82,6,Gz gT),(83,7,D ((1:Nat):Int))] (by kernel_rfl) ⟨(List.cons.inj h6).1,(List.cons.inj h7).1,trivial⟩ (AH.value (v:=(pt gT (1 * 4))) (w':=u) ⟨hC,.refl _ _,rfl⟩)
    · exact AH.knownE [(82,6,Gz gT),(83,7,D ((2:Nat):Int))] (by kernel_rfl) ⟨(List.cons.inj h6).1,(List.cons.inj h7).1,trivial⟩ (AH.value (v:=(pt gT (2 * 4))) (w':=u) ⟨hC,.refl _ _,rfl⟩)
    · exact AH.knownE [(82,6,Gz gT),(83,7,D ((3:Nat):Int))] (by kernel_rfl) ⟨(List.cons.inj h6).1,(List.cons.inj h7).1,trivial⟩ (AH.value (v:=(pt gT (3 * 4))) (w':=u) ⟨hC,.refl _ _,rfl⟩)
  · refine ⟨fun _ _ _ _ _ h=>h,fun vals u hC hb=>?_⟩
    obtain ⟨_,_,h8,_⟩:=hb
    rcases hi with rfl | rfl | rfl | rfl
    · exact AH.knownE [(84,8,pt gT (0 * 4))] (by kernel_rfl) ⟨(List.cons.inj h8).1,trivial⟩ (AH.reads ⟨0,BM w r v (XN gN gT),(3,0 * 4),[]⟩ hC.ph.lies.sat.good (Gj 0) ⟨hC,.refl _ _,rfl⟩)
    · exact AH.knownE [(84,8,pt gT (1 * 4))] (by kernel_rfl) ⟨(List.cons.inj h8).1,trivial⟩ (AH.reads ⟨0,BM w r v (XN gN gT),(3,1 * 4),[]⟩ hC.ph.lies.sat.good (Gj 1) ⟨hC,.refl _ _,rfl⟩)
    · exact AH.knownE [(84,8,pt gT (2 * 4))] (by kernel_rfl) ⟨(List.cons.inj h8).1,trivial⟩ (AH.reads ⟨0,BM w r v (XN gN gT),(3,2 * 4),[]⟩ hC.ph.lies.sat.good (Gj 2) ⟨hC,.refl _ _,rfl⟩)
    · exact AH.knownE [(84,8,pt gT (3 * 4))] (by kernel_rfl) ⟨(List.cons.inj h8).1,trivial⟩ (AH.reads ⟨0,BM w r v (XN gN gT),(3,3 * 4),[]⟩ hC.ph.lies.sat.good (Gj 3) ⟨hC,.refl _ _,rfl⟩)
  · refine ⟨fun _ _ _ _ _ h=>h,fun vals u hC hb=>?_⟩
    obtain ⟨h10,_⟩:=hb
    exact AH.knownE [(86,10,D k)] (by kernel_rfl) ⟨(List.cons.inj h10).1,trivial⟩ (AH.value (v:=(D (IntKind.i64.wrap (5 * k)))) (w':=u) ⟨hC,.refl _ _,rfl⟩)
  · refine ⟨fun _ _ _ _ _ h=>h,fun vals u hC hb=>?_⟩
    obtain ⟨_,h11,_⟩:=hb
    exact AH.knownE [(87,11,(D (IntKind.i64.wrap (5 * k))))] (by kernel_rfl) ⟨(List.cons.inj h11).1,trivial⟩ (AH.value (v:=(D (IntKind.i64.wrap (20454 + IntKind.i64.wrap (5 * k))))) (w':=u) ⟨hC,.refl _ _,rfl⟩)
  · refine ⟨fun _ _ _ _ _ h=>h,fun vals u hC hb=>?_⟩
    obtain ⟨h14,h15,_⟩:=hb
    rcases hi with rfl | rfl | rfl | rfl
    · exact AH.knownE [(90,14,Gz gT),(91,15,D ((0:Nat):Int))] (by kernel_rfl) ⟨(List.cons.inj h14).1,(List.cons.inj h15).1,trivial⟩ (AH.value (v:=(pt gT (0 * 4))) (w':=u) ⟨hC,.refl _ _,rfl⟩)
    · exact AH.knownE [(90,14,Gz gT),(91,15,D ((1:Nat):Int))] (by kernel_rfl) ⟨(List.cons.inj h14).1,(List.cons.inj h15).1,trivial⟩ (AH.value (v:=(pt gT (1 * 4))) (w':=u) ⟨hC,.refl _ _,rfl⟩)
    · exact AH.knownE [(90,14,Gz gT),(91,15,D ((2:Nat):Int))] (by kernel_rfl) ⟨(List.cons.inj h14).1,(List.cons.inj h15).1,trivial⟩ (AH.value (v:=(pt gT (2 * 4))) (w':=u) ⟨hC,.refl _ _,rfl⟩)
    · exact AH.knownE [(90,14,Gz gT),(91,15,D ((3:Nat):Int))] (by kernel_rfl) ⟨(List.cons.inj h14).1,(List.cons.inj h15).1,trivial⟩ (AH.value (v:=(pt gT (3 * 4))) (w':=u) ⟨hC,.refl _ _,rfl⟩)
  · refine ⟨fun _ _ _ _ _ h=>h,fun vals u hC hb=>?_⟩
    obtain ⟨_,_,h16,_⟩:=hb
    rcases hi with rfl | rfl | rfl | rfl
    · exact AH.knownE [(92,16,pt gT (0 * 4))] (by kernel_rfl) ⟨(List.cons.inj h16).1,trivial⟩ (AH.reads ⟨0,BM w r v (XN gN gT),(3,0 * 4),[]⟩ hC.ph.lies.sat.good (Gj 0) ⟨hC,.refl _ _,rfl⟩)
    · exact AH.knownE [(92,16,pt gT (1 * 4))] (by kernel_rfl) ⟨(List.cons.inj h16).1,trivial⟩ (AH.reads ⟨0,BM w r v (XN gN gT),(3,1 * 4),[]⟩ hC.ph.lies.sat.good (Gj 1) ⟨hC,.refl _ _,rfl⟩)
    · exact AH.knownE [(92,16,pt gT (2 * 4))] (by kernel_rfl) ⟨(List.cons.inj h16).1,trivial⟩ (AH.reads ⟨0,BM w r v (XN gN gT),(3,2 * 4),[]⟩ hC.ph.lies.sat.good (Gj 2) ⟨hC,.refl _ _,rfl⟩)
    · exact AH.knownE [(92,16,pt gT (3 * 4))] (by kernel_rfl) ⟨(List.cons.inj h16).1,trivial⟩ (AH.reads ⟨0,BM w r v (XN gN gT),(3,3 * 4),[]⟩ hC.ph.lies.sat.good (Gj 3) ⟨hC,.refl _ _,rfl⟩)
  · refine ⟨fun _ u u' _ he h=>MY hlt h he,fun vals u hC hb=>?_⟩
    obtain ⟨h13,_,_,_,h17,h18,h19,_⟩:=hb
    refine AH.call (f:=36) [.tmp 89,.tmp 93,.tmp 94,.tmp 95] (args:=[(pt b 0),Gj i,D H,D rules]) (ats:=#[57,26,3,3]) rfl ?_ (BW _ _) ?_
    · rw [show [.tmp 89,.tmp 93,.tmp 94,.tmp 95].map (C0 168 (Aw E (GT b w H wl gN gT i rules k)) Zb vals)=[vals 13,vals 17,vals 18,vals 19] by kernel_rfl,(List.cons.inj h13).1,(List.cons.inj h17).1,(List.cons.inj h18).1,(List.cons.inj h19).1]
    · refine (IH (L7.getD i BU).1 (L7.getD i BU).2.1 (L7.getD i BU).2.2.1 (L7.getD i BU).2.2.2 H (rules) u hC.ph.tape (mM hi) (by omega) (by omega) (by omega) (by omega) (by omega)).mono ?_
      rintro e u' ⟨x,cs,hx,hex,rfl,hT,hB⟩
      exact ⟨_,rfl,hC.call hT hB,hB,x,cs,hx,D2.of (fun g hg _=>hC.fresh hg) _ _ hex,rfl⟩
  · refine ⟨fun _ u u' _ he h=>G4 hlt h he,fun vals u hC hb=>?_⟩
    obtain ⟨_,_,_,h5,_,_,_,h9,_,_,h12,_,_,_,_,_,_,_,⟨x,cs,hx,hex,e20⟩,_⟩:=hb
    have hex2:=hex
    obtain ⟨x0,x1,x2,x3,x4,x5,x6,x7,x8,xA,xn,xc,rfl⟩:=hex2.cells
    have hb:0≤IntKind.i64.wrap (20454 + IntKind.i64.wrap (5 * k))∧IntKind.i64.wrap (20454 + IntKind.i64.wrap (5 * k))≤30000:=by rw [IntWalk.i64_in (5 * k) (by omega),IntWalk.i64_in _ (by omega)]; omega
    let z1:=IntKind.i64.wrap (20454 + IntKind.i64.wrap (5 * k))
    let z2:List Value:=[D x0,D x1,D x2,D x3,D x4,D x5,.string ⟨x6.toArray⟩,D x7,D x8,.slice xA xn xc]
    refine AH.knownE [(81,5,EE i),(85,9,Gj i),(88,12,(D z1)),(96,20,.agg (z2:List Value).toArray)] (by kernel_rfl) ⟨(List.cons.inj h5).1,(List.cons.inj h9).1,(List.cons.inj h12).1,e20,trivial⟩ (AH.value (v:=.agg ((SM i z1 x).head none 0++(z2:List Value)++(SM i z1 x).tail).toArray) (w':=u) (h:=?_) ⟨hC,.refl _ _,_,_,ic hi hb.1 hb.2 hx,⟨none,0,_,hex,.inl rfl,rfl⟩,rfl⟩)
    rcases hi with rfl | rfl | rfl | rfl <;> kernel_rfl
  · refine ⟨fun _ u u' _ he h=>Hh hlt h he,fun vals u hC hb=>?_⟩
    obtain ⟨_,_,_,_,_,_,_,_,_,_,_,_,_,_,_,_,_,_,_,⟨d0,c0,hd0,hc0,e0⟩,_⟩:=hb
    have hal:Below u.heap.size u (u.alloc (.cells [c0].flatten.toArray 34)):=(Below.refl _ _).alloc (Nat.le_refl _) _
    obtain ⟨z0_0,z0_1,z0_2,z0_3,z0_4,z0_5,z0_6,z0_7,z0_8,z0_9,z0_10,z0_11,z0_12,z0_13,rfl⟩:=hc0.cells
    let z0:List Value:=[D d0.kind,.string ⟨d0.name.toArray⟩,.bool d0.tb,D d0.tm,D d0.th,D d0.td,D d0.frm,.slice z0_0 d0.ents.length z0_1,D z0_2,D z0_3,D z0_4,D z0_5,D z0_6,D z0_7,.string ⟨z0_8.toArray⟩,D z0_9,D z0_10,.slice z0_11 z0_12 z0_13,D d0.mode,D d0.num,D d0.den]
    refine AH.knownE [(97,21,.agg (z0:List Value).toArray)] (by kernel_rfl) ⟨e0,trivial⟩ (AH.value (v:=.slice (some ⟨u.heap.size,0,none⟩) 1 1) (w':=u.alloc (.cells [(z0:List Value)].flatten.toArray 34)) ⟨hC.below hal,.of_below hal,[(z0:List Value)],u.heap.size,?_,rfl,rfl,heap_alloc_new _ _,?_⟩)
    · intro row hrow
      simp only [List.mem_cons,List.not_mem_nil,or_false] at hrow
      rcases hrow with rfl
      · exact ⟨d0,hd0,hc0.keep (by simp) (fun g hS hl=>⟨hS,D8 _ _ _ hl⟩)⟩
    · have:=hC.ph.tape.lt; omega
set_option maxRecDepth 100000 in
set_option maxHeartbeats 1000000 in
theorem bV {gN gT i:Nat} {rules k:Int} (IH:Bv b ns H) (hH:H≤100) (hi:i=0∨i=1∨i=2∨i=3) (hr0:0≤rules) (hr1:rules≤10) (hk0:0≤k) (hk1:k≤1) (hA:Ag b ns (max 1 H) w r v v (XN gN gT) rs wx) (hrs:rs.length≤100) {R:Ending→World→Prop} {td:List Item} (hd:Fc td=some ES)
    (hk:∀ v' q u E',Ag b ns (max 1 H) w r v' v' (XN gN gT) (rs++q) u→q.length=1→At Tryz.prog 12 R (AP td) (Fr 168 (Aw E' (GT b w H wl gN gT i rules k))) u) :
    At Tryz.prog 12 R td (Fr 168 (Aw E (GT b w H wl gN gT i rules k))) wx:=by
  have hlt:=hA.ph.lt
  refine C4 ES (hd:=hd) 26 ?_
  let z0:=Ir b H w v (XN gN gT) gN gT i rules k
  refine CG (fuel:=3) (L:=z0) (W:=Zb) (C:=(fun u=>Ag b ns (max 1 H) w r v v (XN gN gT) rs u)) (Ext:=Ae b) (hok:=(uD b H w v (XN gN gT) gN gT i rules k)) (hA.below (Below.refl _ _).drew) (Ae.refl b) (fun _ _ _=>Ae.trans) (gl hlt IH hH hi hr0 hr1 hk0 hk1) rfl ?_
  intro vals u hC _ hall
  obtain ⟨_,e1,_,_,_,_,_,_,_,_,_,_,_,_,_,_,_,_,_,_,_,_,⟨q,B,hq,hql,eB,hB,_⟩,_⟩:=hall
  let z2:=Array.replicate 26 false
  have r1:Region.ready .any ES ((z0.map (·.idx)).foldl (fun b i=>b.setIfInBounds i true) z2)=[23]:=by kernel_rfl
  have r2:Region.ready .any ES (((z0.map (·.idx)).foldl (fun b i=>b.setIfInBounds i true) z2).setIfInBounds 23 true)=[24]:=by kernel_rfl
  have r3:Region.ready .any ES ((((z0.map (·.idx)).foldl (fun b i=>b.setIfInBounds i true) z2).setIfInBounds 23 true).setIfInBounds 24 true)=[25]:=by kernel_rfl
  have r4:Region.ready .any ES (((((z0.map (·.idx)).foldl (fun b i=>b.setIfInBounds i true) z2).setIfInBounds 23 true).setIfInBounds 24 true).setIfInBounds 25 true)=[]:=by kernel_rfl
  let z1:=GT b w H wl gN gT i rules k
  have q1:BN 168 (Eu ES vals (z0.map (·.idx)) (Aw E z1)) (.tmp 77)=vals 1:=by kernel_rfl
  have q2:BN 168 (Eu ES vals (z0.map (·.idx)) (Aw E z1)) (.tmp 98)=vals 22:=by kernel_rfl
  have qs:z1.map (fun p=>(Eu ES vals (z0.map (·.idx)) (Aw E z1)) p.1)=z1.map (·.2):=by kernel_rfl
  generalize ((z0.map (·.idx)).foldl (fun b i=>b.setIfInBounds i true) z2)=lst at *
  generalize (Eu ES vals (z0.map (·.idx)) (Aw E z1))=E8 at *
  refine Gs (fuel:=2) r1 (show ES[23]?=some (ES.getD 23 default) by kernel_rfl) (by kernel_rfl) ?_
  have hsz:w.heap.size + 2≤u.heap.size:=by
    have:=(hC.ph.lies.sat.good ⟨w.heap.size + 1,0,[Hl,v],38,true⟩ (by simp [BM])).1
    simp only at this
    omega
  refine Jp (.tmp 77) (.tmp 98) 36 (by kernel_rfl) (w.heap.size + 2) 34 (by kernel_rfl) Pf (by rfl) (by decide) v rs.length rs.flatten (by rw [Cm,q1]; exact (List.cons.inj e1).1) hC.own ⟨B,0,none⟩ 1 1 q.flatten (by rw [Cm,q2]; exact eB) (by rw [I9 hq.len,hql]) ?_ (Ls hq) (by decide) (by unfold maxLen; omega) (by omega) hsz ?_
  · intro jj uu hju
    rw [Addr.add_mid]
    exact H1 hB jj uu hju
  · intro v' u2 O8 hg8 hw8
    have A8:=hC.append hq (by rw [hql]; exact O8) hg8 hw8
    obtain ⟨wA,wc,rfl⟩:=Ge O8
    rw [show (ES.getD 23 default).dst=some 99 by kernel_rfl,Dy,← Fy qs]
    refine FL (fuel:=1) (ES.getD 24 default) ⟨u2.heap.size,BM w r v (XN gN gT),(0,0),[]⟩ ⟨u2.heap.size,BM w r v (XN gN gT),(0,0),[]⟩ (.value (.pointer (some ⟨w.heap.size + 1,1,none⟩))) (.pointer (some ⟨w.heap.size + 1,1,none⟩)) r2 (.inl rfl) A8.ph.lies rfl fun u3 hL9 hK9=>?_
    have A9:=A8.run hK9 hL9 (fun e he=>.inl ⟨e,he,rfl⟩)
    rw [show (ES.getD 24 default).dst=some 100 by kernel_rfl]
    refine FL (fuel:=0) (ES.getD 25 default) ⟨u3.heap.size,BM w r v (XN gN gT),(1,1),[]⟩ ⟨u3.heap.size,BM w r (.slice wA (rs.length + 1) wc) (XN gN gT),(1,2),[(w.heap.size + 1,w.heap.size + 1),(1,1)]⟩ .skip undef r3 (.inr ⟨rfl,rfl⟩) ⟨A9.ph.lies.sat,A9.ph.lies.le,A9.ph.lies.own⟩ rfl fun u4 hL10 hK10=>?_
    have A10:=A9.run hK10 hL10 (fun e he=>.inl ⟨e,he,rfl⟩)
    rw [show (ES.getD 25 default).dst=none by kernel_rfl]
    refine Cy (hr:=r4) ⟨rfl,At.mid ?_⟩
    exact EQ z1 (by kernel_rfl) fun E'=>hk _ q u4 E' A10 hql
def ER:Array Oper:=ID Tryz.f12 20
def M6:Wr:=[(107,0),(108,1),(109,2),(110,3),(111,4),(112,5),(113,6),(114,7),(115,8),(116,9),(117,10),(118,11),(119,12),(120,13),(121,14),(122,15),(123,16),(124,17),(125,18),(126,19),(127,20),(128,21),(129,22),(130,23)]
def Iq (b H:Nat) (w:World) (v:Value) (X:List BI) (i:Nat):List Ci:=
  [AN 0 [] (.pointer (some ⟨w.heap.size + 1,1,none⟩)),
   AN 1 [0] v,
   ⟨2,[],[2],fun vs u=>Fb b [IF 0,IF 1] 9 2 (vs.getD 0 undef) u⟩,
   AN 3 [] (D i),
   ⟨4,[2,3],[4],fun vs u=>Te b [IF 0,IF 1] 9 i (vs.getD 0 undef) u⟩,
   ⟨5,[2,3,4],[5],fun vs _=>vs=[IF i]⟩,
   AN 6 [] (pt b 0),
   AN 7 [] (Cl Cc),
   AN 8 [] (D H),
   AN 9 [] (D i),
   AN 10 [9] (D (IntKind.i64.wrap (4 + (i:Int)))),
   ⟨11,[6,7,8,9,10],[11],fun vs u=>ND (max 1 H) (SA w v X) (vs.getD 0 undef) u⟩,
   AN 12 [] (pt b 0),
   ⟨13,[6,7,8,9,10,11,12],[13],fun vs _=>GX 7 (vs.getD 0 undef)⟩,
   AN 14 [] (Jk 1 100),
   AN 15 [] (Jk 1 20),
   AN 16 [] (Jk 1 1),
   ⟨17,[14,15,16],[17],fun vs u=>Fb b (Et [1,100,1,20,1,1]) 29 3 (vs.getD 0 undef) u⟩,
   AN 18 [] (pt b 0),
   ⟨19,[6,7,8,9,10,11,12,13,18],[19],fun vs _=>GX 3 (vs.getD 0 undef)⟩,
   ⟨20,[6,7,8,9,10,11,12,13,14,15,16,17,18,19],[20],fun vs u=>bM b (vs.getD 0 undef) u⟩,
   ⟨21,[6,7,8,9,10,11,12,13,14,15,16,17,18,19,20],[21],fun vs _=>bL (vs.getD 0 undef)⟩,
   ⟨22,[2,3,4,5,6,7,8,9,10,11,12,13,14,15,16,17,18,19,20,21],[22],fun vs u=>GM (max 1 H) (SA w v X) (vs.getD 0 undef) u⟩,
   ⟨23,[2,3,4,5,6,7,8,9,10,11,12,13,14,15,16,17,18,19,20,21,22],[23],fun vs u=>IV (max 1 H) (SA w v X) b 1 (vs.getD 0 undef) u⟩]
theorem uC (b H:Nat) (w:World) (v:Value) (X:List BI) (i:Nat):(EY .any ER M6 (Array.replicate 27 false) 168 (Iq b H w v X i) && bare ER (Iq b H w v X i))=true:=by kernel_rfl
set_option maxRecDepth 100000 in
set_option maxHeartbeats 1000000 in
theorem gj (hlt:b < w.heap.size) {i:Nat} (IH:Bv b ns H) (hH:H≤100) (hi:i=0∨i=1) (hb4:0≤IntKind.i64.wrap (4 + (i:Int))∧IntKind.i64.wrap (4 + (i:Int))≤10):GW Tryz.prog ER 168 (Aw E (GC b w H wl i)) M6 (fun u=>Ag b ns (max 1 H) w r v v X rs u) (Ae b) (Iq b H w v X i) (Iq b H w v X i):=by
  refine ⟨BF (Ae.refl b) (fun _ _ _ _=>by kernel_rfl),?_,?_,BF (Ae.refl b) (fun _ _ _ _=>by kernel_rfl),?_,?_,BF (Ae.refl b) (fun _ _ _ _=>by kernel_rfl),?_,BF (Ae.refl b) (fun _ _ _ _=>by kernel_rfl),BF (Ae.refl b) (fun _ _ _ _=>by kernel_rfl),?_,?_,BF (Ae.refl b) (fun _ _ _ _=>by kernel_rfl),?_,BF (Ae.refl b) (fun _ _ _ _=>by kernel_rfl),BF (Ae.refl b) (fun _ _ _ _=>by kernel_rfl),BF (Ae.refl b) (fun _ _ _ _=>by kernel_rfl),?_,BF (Ae.refl b) (fun _ _ _ _=>by kernel_rfl),?_,?_,?_,?_,?_,trivial⟩
  · refine ⟨fun _ _ _ _ _ h=>h,fun vals u hC hb=>?_⟩
    obtain ⟨h0,_⟩:=hb
    exact AH.knownE [(107,0,(.pointer (some ⟨w.heap.size + 1,1,none⟩)))] (by kernel_rfl) ⟨(List.cons.inj h0).1,trivial⟩ (AH.reads ⟨0,BM w r v X,(1,1),[]⟩ hC.ph.lies.sat.good v ⟨hC,.refl _ _,rfl⟩)
  · refine ⟨fun vs u u' _ he ⟨B,h1,h2,h3⟩=>⟨B,h1,Fm h2 h3 he,h3⟩,fun vals u hC hb=>?_⟩
    have hal:Below u.heap.size u (u.alloc (.cells ([IF 0,IF 1]:List Value).toArray 9)):=(Below.refl _ _).alloc (Nat.le_refl _) _
    exact AH.knownE [] (by kernel_rfl) trivial (AH.value (v:=.slice (some ⟨u.heap.size,0,none⟩) 2 2) (w':=u.alloc (.cells ([IF 0,IF 1]:List Value).toArray 9)) ⟨hC.below hal,.of_below hal,u.heap.size,rfl,heap_alloc_new _ _,by have:=hC.ph.tape.lt; omega⟩)
  · refine ⟨fun vs u u' _ he ⟨B,h1,h2,h3⟩=>⟨B,h1,Fm h2 h3 he,h3⟩,fun vals u hC hb=>?_⟩
    obtain ⟨⟨B,e2,hB,hne⟩,h3,_⟩:=hb
    rcases hi with rfl | rfl
    · exact AH.knownE [(109,2,.slice (some ⟨B,0,none⟩) 2 2),(110,3,D ((0:Nat):Int))] (by kernel_rfl) ⟨e2,(List.cons.inj h3).1,trivial⟩ (AH.value (v:=pt B 0) (w':=u) ⟨hC,.refl _ _,B,rfl,hB,hne⟩)
    · exact AH.knownE [(109,2,.slice (some ⟨B,0,none⟩) 2 2),(110,3,D ((1:Nat):Int))] (by kernel_rfl) ⟨e2,(List.cons.inj h3).1,trivial⟩ (AH.value (v:=pt B 1) (w':=u) ⟨hC,.refl _ _,B,rfl,hB,hne⟩)
  · refine ⟨fun _ u u' _ he h=>h,fun vals u hC hb=>?_⟩
    obtain ⟨_,_,⟨B,e4,hB,hne⟩,_⟩:=hb
    have hq:C0 168 (Aw E (GC b w H wl i)) M6 vals (.tmp 111)=vals 4:=by kernel_rfl
    rcases hi with rfl | rfl
    · exact AH.loadOne 9 (.tmp 111) (by kernel_rfl) (hq.trans e4) (v:=IF 0) (Lib.cell_of_heap hB 0) (by kernel_rfl) ⟨hC,.refl _ _,rfl⟩
    · exact AH.loadOne 9 (.tmp 111) (by kernel_rfl) (hq.trans e4) (v:=IF 1) (Lib.cell_of_heap hB 1) (by kernel_rfl) ⟨hC,.refl _ _,rfl⟩
  · refine ⟨fun _ _ _ _ _ h=>h,fun vals u hC hb=>?_⟩
    refine AH.call (f:=31) [] (args:=[]) (ats:=#[]) rfl rfl (BW _ _) ?_
    refine (EO u).mono ?_
    rintro e u' ⟨rfl,hb'⟩
    exact ⟨_,rfl,hC.below hb',.of_below hb',rfl⟩
  · refine ⟨fun _ _ _ _ _ h=>h,fun vals u hC hb=>?_⟩
    obtain ⟨h9,_⟩:=hb
    exact AH.knownE [(116,9,D i)] (by kernel_rfl) ⟨(List.cons.inj h9).1,trivial⟩ (AH.value (v:=(D (IntKind.i64.wrap (4 + (i:Int))))) (w':=u) ⟨hC,.refl _ _,rfl⟩)
  · refine ⟨fun _ u u' _ he h=>MY hlt h he,fun vals u hC hb=>?_⟩
    obtain ⟨h6,h7,h8,_,h10,_⟩:=hb
    refine AH.call (f:=36) [.tmp 113,.tmp 114,.tmp 115,.tmp 117] (args:=[(pt b 0),Cl Cc,D H,D (IntKind.i64.wrap (4 + (i:Int)))]) (ats:=#[57,26,3,3]) rfl ?_ (BW _ _) ?_
    · rw [show [.tmp 113,.tmp 114,.tmp 115,.tmp 117].map (C0 168 (Aw E (GC b w H wl i)) M6 vals)=[vals 6,vals 7,vals 8,vals 10] by kernel_rfl,(List.cons.inj h6).1,(List.cons.inj h7).1,(List.cons.inj h8).1,(List.cons.inj h10).1]
    · refine (IH (Cc).1 (Cc).2.1 (Cc).2.2.1 (Cc).2.2.2 H ((IntKind.i64.wrap (4 + (i:Int)))) u hC.ph.tape Ml (by omega) (by omega) (by omega) (by omega) (by omega)).mono ?_
      rintro e u' ⟨x,cs,hx,hex,rfl,hT,hB⟩
      exact ⟨_,rfl,hC.call hT hB,hB,x,cs,hx,D2.of (fun g hg _=>hC.fresh hg) _ _ hex,rfl⟩
  · refine ⟨fun _ u u' _ he h=>h,fun vals u hC hb=>?_⟩
    obtain ⟨_,_,_,_,_,_,hj,_⟩:=hb
    refine AH.call (f:=35) [.tmp 119,.const (D 7)] (args:=[pt b 0,D 7]) (ats:=#[57,3]) rfl ?_ (BW _ _) ?_
    · rw [show [.tmp 119,.const (D 7)].map (C0 168 (Aw E (GC b w H wl i)) M6 vals)=[vals 12,D 7] by kernel_rfl,(List.cons.inj hj).1]
    · refine (CE b ns 7 u hC.ph.tape (by omega) (by omega)).mono ?_
      rintro e u' ⟨k,hk,rfl,hT,hB⟩
      exact ⟨_,rfl,hC.call hT hB,hB,k,by omega,rfl⟩
  · refine ⟨fun vs u u' _ he ⟨B,h1,h2,h3⟩=>⟨B,h1,Fm h2 h3 he,h3⟩,fun vals u hC hb=>?_⟩
    obtain ⟨h14,h15,h16,_⟩:=hb
    have hal:Below u.heap.size u (u.alloc (.cells ((Et [1,100,1,20,1,1]):List Value).toArray 29)):=(Below.refl _ _).alloc (Nat.le_refl _) _
    exact AH.knownE [(121,14,Jk 1 100),(122,15,Jk 1 20),(123,16,Jk 1 1)] (by kernel_rfl) ⟨(List.cons.inj h14).1,(List.cons.inj h15).1,(List.cons.inj h16).1,trivial⟩ (AH.value (v:=.slice (some ⟨u.heap.size,0,none⟩) 3 3) (w':=u.alloc (.cells ((Et [1,100,1,20,1,1]):List Value).toArray 29)) ⟨hC.below hal,.of_below hal,u.heap.size,rfl,heap_alloc_new _ _,by have:=hC.ph.tape.lt; omega⟩)
  · refine ⟨fun _ u u' _ he h=>h,fun vals u hC hb=>?_⟩
    obtain ⟨_,_,_,_,_,_,_,_,hj,_⟩:=hb
    refine AH.call (f:=35) [.tmp 125,.const (D 3)] (args:=[pt b 0,D 3]) (ats:=#[57,3]) rfl ?_ (BW _ _) ?_
    · rw [show [.tmp 125,.const (D 3)].map (C0 168 (Aw E (GC b w H wl i)) M6 vals)=[vals 18,D 3] by kernel_rfl,(List.cons.inj hj).1]
    · refine (CE b ns 3 u hC.ph.tape (by omega) (by omega)).mono ?_
      rintro e u' ⟨k,hk,rfl,hT,hB⟩
      exact ⟨_,rfl,hC.call hT hB,hB,k,by omega,rfl⟩
  · refine ⟨fun vs u u' _ he ⟨k,hk,B,h1,h2,h3⟩=>⟨k,hk,B,h1,Fm h2 h3 he,h3⟩,fun vals u hC hb=>?_⟩
    obtain ⟨_,_,_,_,_,_,_,_,_,_,_,⟨B,e17,hB,hne⟩,_,⟨k,hk,e19⟩,_⟩:=hb
    have hk3:k=0∨k=1∨k=2:=by omega
    rcases hk3 with rfl | rfl | rfl
    · exact AH.knownE [(124,17,.slice (some ⟨B,0,none⟩) 3 3),(126,19,D 0)] (by kernel_rfl) ⟨e17,e19,trivial⟩ (AH.value (v:=pt B 0) (w':=u) ⟨hC,.refl _ _,0,hk,B,rfl,hB,hne⟩)
    · exact AH.knownE [(124,17,.slice (some ⟨B,0,none⟩) 3 3),(126,19,D 1)] (by kernel_rfl) ⟨e17,e19,trivial⟩ (AH.value (v:=pt B 2) (w':=u) ⟨hC,.refl _ _,1,hk,B,rfl,hB,hne⟩)
    · exact AH.knownE [(124,17,.slice (some ⟨B,0,none⟩) 3 3),(126,19,D 2)] (by kernel_rfl) ⟨e17,e19,trivial⟩ (AH.value (v:=pt B 4) (w':=u) ⟨hC,.refl _ _,2,hk,B,rfl,hB,hne⟩)
  · refine ⟨fun _ u u' _ he h=>h,fun vals u hC hb=>?_⟩
    obtain ⟨_,_,_,_,_,_,_,_,_,_,_,_,_,_,⟨k,hk,B,e20,hB,hne⟩,_⟩:=hb
    have hq:C0 168 (Aw E (GC b w H wl i)) M6 vals (.tmp 127)=vals 20:=by kernel_rfl
    have hk3:k=0∨k=1∨k=2:=by omega
    rcases hk3 with rfl | rfl | rfl
    · exact AH.loadMid 29 (.tmp 127) (hq.trans e20) (Et [1,100]) (DF hB 0 _ rfl) ⟨hC,.refl _ _,(1,100),by simp [K0],rfl⟩
    · exact AH.loadMid 29 (.tmp 127) (hq.trans e20) (Et [1,20]) (DF hB 2 _ rfl) ⟨hC,.refl _ _,(1,20),by simp [K0],rfl⟩
    · exact AH.loadMid 29 (.tmp 127) (hq.trans e20) (Et [1,1]) (DF hB 4 _ rfl) ⟨hC,.refl _ _,(1,1),by simp [K0],rfl⟩
  · refine ⟨fun _ u u' _ he h=>G4 hlt h he,fun vals u hC hb=>?_⟩
    obtain ⟨_,_,_,h5,_,_,_,_,_,⟨x,cs,hx,hex,e11⟩,_,⟨m,hm,e13⟩,_,_,_,_,_,_,_,⟨⟨p,q⟩,hpq,e21⟩,_⟩:=hb
    have hex2:=hex
    obtain ⟨x0,x1,x2,x3,x4,x5,x6,x7,x8,xA,xn,xc,rfl⟩:=hex2.cells
    let z1:List Value:=[D x0,D x1,D x2,D x3,D x4,D x5,.string ⟨x6.toArray⟩,D x7,D x8,.slice xA xn xc]
    refine AH.knownE [(112,5,IF i),(118,11,.agg (z1:List Value).toArray),(120,13,D m),(128,21,Jk p q)] (by kernel_rfl) ⟨(List.cons.inj h5).1,e11,e13,e21,trivial⟩ (AH.value (v:=.agg ((ZQ i x m p q).head none 0++(z1:List Value)++(ZQ i x m p q).tail).toArray) (w':=u) (h:=?_) ⟨hC,.refl _ _,_,_,mo hi hx (by omega) (by omega) hpq,⟨none,0,_,hex,.inl rfl,rfl⟩,rfl⟩)
    rcases hi with rfl | rfl <;> kernel_rfl
  · refine ⟨fun _ u u' _ he h=>Hh hlt h he,fun vals u hC hb=>?_⟩
    obtain ⟨_,_,_,_,_,_,_,_,_,_,_,_,_,_,_,_,_,_,_,_,⟨d0,c0,hd0,hc0,e0⟩,_⟩:=hb
    have hal:Below u.heap.size u (u.alloc (.cells [c0].flatten.toArray 34)):=(Below.refl _ _).alloc (Nat.le_refl _) _
    obtain ⟨z0_0,z0_1,z0_2,z0_3,z0_4,z0_5,z0_6,z0_7,z0_8,z0_9,z0_10,z0_11,z0_12,z0_13,rfl⟩:=hc0.cells
    let z0:List Value:=[D d0.kind,.string ⟨d0.name.toArray⟩,.bool d0.tb,D d0.tm,D d0.th,D d0.td,D d0.frm,.slice z0_0 d0.ents.length z0_1,D z0_2,D z0_3,D z0_4,D z0_5,D z0_6,D z0_7,.string ⟨z0_8.toArray⟩,D z0_9,D z0_10,.slice z0_11 z0_12 z0_13,D d0.mode,D d0.num,D d0.den]
    refine AH.knownE [(129,22,.agg (z0:List Value).toArray)] (by kernel_rfl) ⟨e0,trivial⟩ (AH.value (v:=.slice (some ⟨u.heap.size,0,none⟩) 1 1) (w':=u.alloc (.cells [(z0:List Value)].flatten.toArray 34)) ⟨hC.below hal,.of_below hal,[(z0:List Value)],u.heap.size,?_,rfl,rfl,heap_alloc_new _ _,?_⟩)
    · intro row hrow
      simp only [List.mem_cons,List.not_mem_nil,or_false] at hrow
      rcases hrow with rfl
      · exact ⟨d0,hd0,hc0.keep (by simp) (fun g hS hl=>⟨hS,D8 _ _ _ hl⟩)⟩
    · have:=hC.ph.tape.lt; omega
set_option maxRecDepth 100000 in
set_option maxHeartbeats 1000000 in
theorem bU {i:Nat} (IH:Bv b ns H) (hH:H≤100) (hi:i=0∨i=1) (hb4:0≤IntKind.i64.wrap (4 + (i:Int))∧IntKind.i64.wrap (4 + (i:Int))≤10) (hA:Ag b ns (max 1 H) w r v v X rs wx) (hrs:rs.length≤100) {R:Ending→World→Prop} {td:List Item} (hd:Fc td=some ER)
    (hk:∀ v' q u E',Ag b ns (max 1 H) w r v' v' X (rs++q) u→q.length=1→At Tryz.prog 12 R (AP td) (Fr 168 (Aw E' (GC b w H wl i))) u) :
    At Tryz.prog 12 R td (Fr 168 (Aw E (GC b w H wl i))) wx:=by
  have hlt:=hA.ph.lt
  refine C4 ER (hd:=hd) 27 ?_
  refine CG (fuel:=3) (L:=(Iq b H w v X i)) (W:=M6) (C:=(fun u=>Ag b ns (max 1 H) w r v v X rs u)) (Ext:=Ae b) (hok:=(uC b H w v X i)) (hA.below (Below.refl _ _).drew) (Ae.refl b) (fun _ _ _=>Ae.trans) (gj hlt IH hH hi hb4) rfl ?_
  intro vals u hC _ hall
  obtain ⟨_,e1,_,_,_,_,_,_,_,_,_,_,_,_,_,_,_,_,_,_,_,_,_,⟨q,B,hq,hql,eB,hB,_⟩,_⟩:=hall
  let z0:=Array.replicate 27 false
  have r1:Region.ready .any ER (((Iq b H w v X i).map (·.idx)).foldl (fun b i=>b.setIfInBounds i true) z0)=[24]:=by kernel_rfl
  have r2:Region.ready .any ER ((((Iq b H w v X i).map (·.idx)).foldl (fun b i=>b.setIfInBounds i true) z0).setIfInBounds 24 true)=[25]:=by kernel_rfl
  have r3:Region.ready .any ER (((((Iq b H w v X i).map (·.idx)).foldl (fun b i=>b.setIfInBounds i true) z0).setIfInBounds 24 true).setIfInBounds 25 true)=[26]:=by kernel_rfl
  have r4:Region.ready .any ER ((((((Iq b H w v X i).map (·.idx)).foldl (fun b i=>b.setIfInBounds i true) z0).setIfInBounds 24 true).setIfInBounds 25 true).setIfInBounds 26 true)=[]:=by kernel_rfl
  let z1:=Aw E (GC b w H wl i)
  have q1:BN 168 (Eu ER vals ((Iq b H w v X i).map (·.idx)) z1) (.tmp 108)=vals 1:=by kernel_rfl
  have q2:BN 168 (Eu ER vals ((Iq b H w v X i).map (·.idx)) z1) (.tmp 130)=vals 23:=by kernel_rfl
  have qs:(GC b w H wl i).map (fun p=>(Eu ER vals ((Iq b H w v X i).map (·.idx)) z1) p.1)=(GC b w H wl i).map (·.2):=by kernel_rfl
  generalize (((Iq b H w v X i).map (·.idx)).foldl (fun b i=>b.setIfInBounds i true) z0)=lst at *
  generalize (Eu ER vals ((Iq b H w v X i).map (·.idx)) z1)=E8 at *
  refine Gs (fuel:=2) r1 (show ER[24]?=some (ER.getD 24 default) by kernel_rfl) (by kernel_rfl) ?_
  have hsz:w.heap.size + 2≤u.heap.size:=by
    have:=(hC.ph.lies.sat.good ⟨w.heap.size + 1,0,[Hl,v],38,true⟩ (by simp [BM])).1
    simp only at this
    omega
  refine Jp (.tmp 108) (.tmp 130) 36 (by kernel_rfl) (w.heap.size + 2) 34 (by kernel_rfl) Pf (by rfl) (by decide) v rs.length rs.flatten (by rw [Cm,q1]; exact (List.cons.inj e1).1) hC.own ⟨B,0,none⟩ 1 1 q.flatten (by rw [Cm,q2]; exact eB) (by rw [I9 hq.len,hql]) ?_ (Ls hq) (by decide) (by unfold maxLen; omega) (by omega) hsz ?_
  · intro jj uu hju
    rw [Addr.add_mid]
    exact H1 hB jj uu hju
  · intro v' u2 O8 hg8 hw8
    have A8:=hC.append hq (by rw [hql]; exact O8) hg8 hw8
    obtain ⟨wA,wc,rfl⟩:=Ge O8
    rw [show (ER.getD 24 default).dst=some 131 by kernel_rfl,Dy,← Fy qs]
    refine FL (fuel:=1) (ER.getD 25 default) ⟨u2.heap.size,BM w r v X,(0,0),[]⟩ ⟨u2.heap.size,BM w r v X,(0,0),[]⟩ (.value (.pointer (some ⟨w.heap.size + 1,1,none⟩))) (.pointer (some ⟨w.heap.size + 1,1,none⟩)) r2 (.inl rfl) A8.ph.lies rfl fun u3 hL9 hK9=>?_
    have A9:=A8.run hK9 hL9 (fun e he=>.inl ⟨e,he,rfl⟩)
    rw [show (ER.getD 25 default).dst=some 132 by kernel_rfl]
    refine FL (fuel:=0) (ER.getD 26 default) ⟨u3.heap.size,BM w r v X,(1,1),[]⟩ ⟨u3.heap.size,BM w r (.slice wA (rs.length + 1) wc) X,(1,2),[(w.heap.size + 1,w.heap.size + 1),(1,1)]⟩ .skip undef r3 (.inr ⟨rfl,rfl⟩) ⟨A9.ph.lies.sat,A9.ph.lies.le,A9.ph.lies.own⟩ rfl fun u4 hL10 hK10=>?_
    have A10:=A9.run hK10 hL10 (fun e he=>.inl ⟨e,he,rfl⟩)
    rw [show (ER.getD 26 default).dst=none by kernel_rfl]
    refine Cy (hr:=r4) ⟨rfl,At.mid ?_⟩
    exact EQ (GC b w H wl i) (by kernel_rfl) fun E'=>hk _ q u4 E' A10 hql
end
end
end Go.Proofs.YtmcpjkcggfmcmaaGreatDoor

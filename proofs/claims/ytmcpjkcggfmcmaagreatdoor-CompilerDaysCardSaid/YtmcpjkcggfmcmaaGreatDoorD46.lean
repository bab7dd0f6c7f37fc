/-
  Part 46 of a proof: contracts of functions.
-/
import Derived.Test.YtmcpjkcggfmcmaaGreatDoorD45
import Derived.Deep.Upon
set_option linter.all false
namespace Go.Proofs.YtmcpjkcggfmcmaaGreatDoor
open Go.RowKit
theorem AH.indexAt {P:Program} {o:Oper} {ρ:Operand→Value} {w:World} {K:Value→World→Prop} (T:TypeId) (x i:Operand) (hop:o.op=.indexAddr T x i) {g len cap k sz:Nat} {e:TypeId} (b:ρ x=.slice (some ⟨g,0,none⟩) len cap) (hi:ρ i=D k) (c:k < len)
  (d:P.underlying T=some (.slice e)) (hs:(P.info? e).map (·.size)=some sz) (h:K (.pointer (some ⟨g,k * sz,none⟩)) w):AH P o ρ w K:=by
 refine AH.value (v:=.pointer (some ⟨g,k * sz,none⟩)) (w':=w) (h:=?_) h
 unfold execOp
 cases hq:P.info? e with
 | none=>rw [hq] at hs; cases hs
 | some inf=>
  have a:inf.size=sz:=by rw [hq] at hs; exact Option.some.inj hs
  simp [hop,b,hi,Instr.indexAt,asIntOf,run_underlying d,c,sizeOf,typeInfo,hq,a,Addr.add]
  intro f
  rw [f]
structure GF (b g:Nat) (w w':World):Prop where
 os:w'.os=w.os
 tape:w'.tape=w.tape
 output:w'.output=w.output
 size:w.heap.size≤w'.heap.size
 block:∀ k,k < w.heap.size→k≠b→k≠g→w'.heap[k]?=w.heap[k]?
theorem GF.refl (b g:Nat) (w:World):GF b g w w:=⟨rfl,rfl,rfl,Nat.le_refl _,fun _ _ _ _=>rfl⟩
theorem GF.trans {b g:Nat} {u v w:World} (h:GF b g u v) (k:GF b g v w):GF b g u w:=
 ⟨k.os.trans h.os,k.tape.trans h.tape,k.output.trans h.output,Nat.le_trans h.size k.size,fun i hi a h2=>(k.block i (Nat.lt_of_lt_of_le hi h.size) a h2).trans (h.block i hi a h2)⟩
section
variable {b:Nat} {ns:List Int} {H:Nat} {w:World} {r:List Value} {v:Value} {X:List BI} {rs:List (List Value)} {wx:World} {wl:Bool} {E:Nat→Value}
theorem Ag.row {c:Value} {g cap i:Nat} (h:Ag b ns H w r c (.slice (some ⟨g,0,none⟩) rs.length cap) X rs wx) {q:List Value} (hi:rs[i]?=some q):wx.rangeAt g (i * 21) q:=by
 intro j u f
 obtain ⟨A,m,e,a⟩:=Tr h.own h.ok.len (by decide)
 injection e with e1 e2 e3
 rcases a with k | ⟨l,off,d,_,hc⟩
 ·rw [k] at hi; cases hi
 ·rw [← e1] at d
  simp only [Option.some.injEq,Addr.mk.injEq,and_true] at d
  obtain ⟨rfl,rfl⟩:=d
  have:=hc i q hi j u f
  rw [Nat.zero_add] at this
  exact this
theorem iV {rs:List (List Value)} {n i:Nat} {q:List Value} (h:∀ r∈rs,r.length=n) (e:q.length=n) (hi:i < rs.length):(rs.set i q).flatten=rs.flatten.take (i * n)++q++rs.flatten.drop (i * n + n):=by
 induction rs generalizing i with
 | nil=>simp at hi
 | cons a rs ih=>
  have ha:=h a (by simp)
  cases i with
  | zero=>
   rw [List.set_cons_zero,List.flatten_cons,List.flatten_cons,Nat.zero_mul,List.take_zero,List.nil_append,Nat.zero_add,List.drop_append_of_le_length (by omega),List.drop_of_length_le (by omega),List.nil_append]
  | succ i=>
   have b:i < rs.length:=by simpa using hi
   have d:(a++rs.flatten).take ((i + 1) * n)=a++rs.flatten.take (i * n):=by
    rw [List.take_append,List.take_of_length_le (by rw [ha,Nat.succ_mul]; omega),ha,show (i + 1) * n - n=i * n by rw [Nat.succ_mul]; omega]
   have c:(a++rs.flatten).drop ((i + 1) * n + n)=rs.flatten.drop (i * n + n):=by
    rw [List.drop_append,List.drop_of_length_le (by rw [ha,Nat.succ_mul]; omega),List.nil_append,ha,show (i + 1) * n + n - n=i * n + n by rw [Nat.succ_mul]; omega]
   rw [List.set_cons_succ,List.flatten_cons,List.flatten_cons,ih (fun r hr=>h r (by simp [hr])) b,d,c]
   simp [List.append_assoc]
theorem MW (g:Nat) (T:TypeId):∀ (q:List Value) (o:Nat) (C:List Value) (u:World),u.heap[g]?=some (.cells C.toArray T (0,0))→o + q.length≤C.length→(u.setCells g o q).heap[g]?=some (.cells (C.take o++q++C.drop (o + q.length)).toArray T (0,0))
 | [],o,C,u,h,_=>by simpa [World.setCells] using h
 | x :: q,o,C,u,h,hl=>by
  rw [List.length_cons] at hl
  unfold World.setCells
  have b:=MF (v:=x) (a:=⟨g,o,none⟩) h rfl
  rw [MW g T q (o + 1) (C.set o x) _ b (by simp; omega)]
  have ho:o < C.length:=by omega
  have d:(C.set o x).take (o + 1)=C.take o++[x]:=by
   rw [List.take_succ_eq_append_getElem (by simpa using ho),List.getElem_set_self,List.take_set_of_le (Nat.le_refl _)]
  have c:(C.set o x).drop (o + 1 + q.length)=C.drop (o + 1 + q.length):=List.drop_set_of_lt (by omega)
  rw [d,c,List.length_cons,show o + (q.length + 1)=o + 1 + q.length by omega]
  simp
theorem L9 (g:Nat):∀ (q:List Value) (o:Nat) (u:World),(u.setCells g o q).heap.size=u.heap.size
 | [],_,_=>rfl
 | x :: q,o,u=>by unfold World.setCells; rw [L9 g q]; simp [World.setCell]
theorem L8 (g:Nat):∀ (q:List Value) (o:Nat) (u:World),(u.setCells g o q).tape=u.tape
 | [],_,_=>rfl
 | x :: q,o,u=>by unfold World.setCells; rw [L8 g q]; rfl
theorem Ag.store {c:Value} {g cap i:Nat} (h:Ag b ns H w r c (.slice (some ⟨g,0,none⟩) rs.length cap) X rs wx) {q:List Value} {d:Df} (hi:i < rs.length) (hd:F4 H d) (hq:Fp (SA w (.slice (some ⟨g,0,none⟩) rs.length cap) X) wx d q) :
  wx.there g (i * 21) 21∧Ag b ns H w r c (.slice (some ⟨g,0,none⟩) (rs.set i q).length cap) X (rs.set i q) (wx.setCells g (i * 21) q)∧GF b g wx (wx.setCells g (i * 21) q):=by
 have hl:=hq.len
 rcases h.own.2 with ⟨h1,_⟩ | ⟨g',c0,a,he,hg,hb,hn,hm,hc,ht⟩
 ·cases h1
 ·simp only [Value.slice.injEq,Option.some.injEq,Addr.mk.injEq,and_true,true_and] at he
  obtain ⟨rfl,rfl⟩:=he
  have a0:=I9 h.ok.len
  have d0:i * 21 + 21≤rs.length * 21:=by omega
  have e0:rs.length * 21≤a.size:=by rw [hc]; exact Nat.mul_le_mul_right _ hn
  have b0:wx.heap[g]?=some (.cells a.toList.toArray 34 (0,0)):=by simpa using hb
  have t:=MW g 34 q (i * 21) a.toList wx b0 (by rw [hl]; simp; omega)
  let z0:=wx.setCells g (i * 21) q
  have y:z0.heap.size=wx.heap.size:=L9 _ _ _ _
  have j:∀ k,k < wx.heap.size→k≠g→z0.heap[k]?=wx.heap[k]?:=fun k p l=>World.heap_setCells_other wx g _ q p l
  have f:GF b g wx z0:=⟨World.os_setCells _ _ _ _,L8 _ _ _ _,World.output_setCells _ _ _ _,Nat.le_of_eq y.symm,fun k p _ l=>j k p l⟩
  have z:wx.grownBy z0 (some g):=⟨f.os,f.tape,f.output,f.size,fun k p l=>j k p (fun e=>l (by rw [e]))⟩
  refine ⟨Ej hb _ _ (by omega),⟨h.ph.grown z (fun k p=>?_),?_,?_,h.new,by simpa using h.off⟩,f⟩
  ·cases p
   refine ⟨by omega,fun e he s=>?_⟩
   exact Y8 (w:=w) (r:=r) (c:=c) (X:=X) hg (fun e he s=>h.off e he (by rw [s]; rfl)) (List.mem_map.2 ⟨e,he,s⟩)
  ·refine ⟨?_,.inr ⟨g,cap,_,rfl,hg,t,by simpa using hn,hm,?_,?_⟩⟩
   ·rw [I9 (fun x n=>?_)]
    rcases List.mem_or_eq_of_mem_set n with n | rfl
    ·exact h.ok.len x n
    ·exact hl
   ·simp only [List.size_toArray,List.length_append,List.length_take,List.length_drop,Array.length_toList]
    omega
   ·simp only [List.length_set]
    rw [iV h.ok.len hl hi]
    have m:a.toList=rs.flatten++a.toList.drop (rs.length * 21):=by rw [← ht,List.take_append_drop]
    generalize a.toList.drop (rs.length * 21)=rest at m
    have t1:a.toList.take (i * 21)=rs.flatten.take (i * 21):=by rw [m,List.take_append_of_le_length (by omega)]
    have t2:a.toList.drop (i * 21 + q.length)=rs.flatten.drop (i * 21 + 21)++rest:=by rw [m,hl,List.drop_append_of_le_length (by omega)]
    rw [t1,t2,← List.append_assoc]
    have u:(rs.flatten.take (i * 21)++q++rs.flatten.drop (i * 21 + 21)).length=rs.length * 21:=by
     simp only [List.length_append,List.length_take,List.length_drop,hl,a0]
     omega
    rw [← u]
    exact List.take_left
  ·intro x n
   rcases List.mem_or_eq_of_mem_set n with n | rfl
   ·obtain ⟨d',h1,h2⟩:=h.ok x n
    exact ⟨d',h1,h2.keep f.size (fun k v o=>⟨by simpa [SA] using v,j k o (fun e=>v.2.1 (by rw [e]; rfl))⟩)⟩
   ·exact ⟨d,hd,hq.keep f.size (fun k v o=>⟨by simpa [SA] using v,j k o (fun e=>v.2.1 (by rw [e]; rfl))⟩)⟩
end
end Go.Proofs.YtmcpjkcggfmcmaaGreatDoor
namespace Go.Proofs.YtmcpjkcggfmcmaaGreatDoor
open Go.RowKit
theorem AH.storeMid {P:Program} {o:Oper} {ρ:Operand→Value} {w:World} {K:Value→World→Prop} (ty:TypeId) (x y:Operand) (ho:o.op=.store ty x y) {b off:Nat} (cs:List Value) (c:ρ x=.pointer (some ⟨b,off,none⟩)) (a:ρ y=.agg cs.toArray)
    (ht:w.there b off cs.length) (hi:(P.info? ty).map (·.size)=some cs.length) (e:cs.all (·.oneCell')=true) (d:K undef (w.setCells b off cs)):AH P o ρ w K:=by
  have hr:=run_storeVar_mid (P:=P) w b off ty cs.toArray (by simpa using ht) (by simpa using hi) (by simpa using e)
  unfold AH execOp
  simp only [ho,c,a,Instr.storeAt,Instr.sureAddr,Sem.run_bind,Sem.run_pure,Result.andThen_ok,hr]
  exact d
noncomputable def F3:Array Oper:=ID Tryz.f12 24
noncomputable def J6:Array Oper:=ID Tryz.f12 25
def VA:Wr:=[(139,0),(140,1),(141,2),(142,3),(143,4),(144,5),(145,6),(146,7),(147,8),(148,9)]
def L6:Wr:=[(149,0),(150,1),(151,2),(152,3),(153,4),(154,5),(155,6),(156,7),(157,8),(158,9),(159,10),(160,11),(161,12),(162,13),(163,14),(164,15),(165,16),(166,18)]
def GR (b:Nat) (w:World) (H:Nat) (wl:Bool) (i:Int):List (Nat×Value):=DD b w H wl++[(14,D i)]
def Jf (b:Nat) (w:World) (H:Nat) (wl:Bool) (i:Int) (n m:Nat):List (Nat×Value):=GR b w H wl i++[(15,D n),(16,D m)]
def MH (w:World):Value:=.pointer (some ⟨w.heap.size + 1,1,none⟩)
def KQ (b:Nat) (w:World) (v:Value) (N:Nat):List Ci:=
  [AN 0 [] (pt b 0),AN 1 [] (MH w),AN 2 [1] v,AN 3 [1,2] (D N),⟨4,[0,1,2,3],[4],fun vs _=>GX N (vs.getD 0 undef)⟩,
   AN 5 [] (pt b 0),AN 6 [] (MH w),AN 7 [6] v,AN 8 [6,7] (D N),⟨9,[0,1,2,3,4,5,6,7,8],[9],fun vs _=>GX N (vs.getD 0 undef)⟩]
theorem uB (b:Nat) (w:World) (v:Value) (N:Nat):(EY .any F3 VA (Array.replicate 12 false) 168 (KQ b w v N) && bare F3 (KQ b w v N))=true:=by kernel_rfl
def Od (H:Nat) (w:World) (X:List BI) (g N cap n m:Nat):List Ci:=
  [AN 0 [] (MH w),AN 1 [0] (.slice (some ⟨g,0,none⟩) N cap),AN 2 [] (D n),AN 3 [] (MH w),AN 4 [3] (.slice (some ⟨g,0,none⟩) N cap),AN 5 [] (D m),
   AN 6 [] (MH w),AN 7 [6] (.slice (some ⟨g,0,none⟩) N cap),AN 8 [] (D m),AN 9 [6,7,8] (pt g (m * 21)),⟨10,[6,7,8,9],[10],fun vs u=>GM H (SA w (.slice (some ⟨g,0,none⟩) N cap) X) (vs.getD 0 undef) u⟩,
   AN 11 [] (MH w),AN 12 [11] (.slice (some ⟨g,0,none⟩) N cap),AN 13 [] (D n),AN 14 [11,12,13] (pt g (n * 21)),⟨15,[11,12,13,14],[15],fun vs u=>GM H (SA w (.slice (some ⟨g,0,none⟩) N cap) X) (vs.getD 0 undef) u⟩,
   AN 16 [0,1,2,6,7,8,9,10,11,12,13,14,15] (pt g (n * 21)),⟨17,[0,1,2,6,7,8,9,10,11,12,13,14,15,16],[],fun _ _=>True⟩,
   AN 18 [0,1,2,3,4,5,6,7,8,9,10,11,12,13,14,15,16,17] (pt g (m * 21)),⟨19,[0,1,2,3,4,5,6,7,8,9,10,11,12,13,14,15,16,17,18],[],fun _ _=>True⟩]
theorem uA (H:Nat) (w:World) (X:List BI) (g N cap n m:Nat):(EY .any J6 L6 (Array.replicate 20 false) 168 (Od H w X g N cap n m) && bare J6 (Od H w X g N cap n m))=true:=by kernel_rfl
section
variable {b:Nat} {ns:List Int} {H:Nat} {w:World} {r:List Value} {v:Value} {X:List BI} {rs:List (List Value)} {wx:World} {wl:Bool} {E:Nat→Value} {i:Int}
set_option maxRecDepth 100000 in
theorem gi {vA:Option Addr} {vc:Nat} (_hlt:b < w.heap.size) (h1:1≤rs.length) (h2:rs.length≤1000):GW Tryz.prog F3 168 (Aw E (GR b w H wl i)) VA (fun u=>Ag b ns (max 1 H) w r (.slice vA rs.length vc) (.slice vA rs.length vc) X rs u) (Ae b) (KQ b w (.slice vA rs.length vc) rs.length) (KQ b w (.slice vA rs.length vc) rs.length):=by
  refine ⟨BF (Ae.refl b) (fun _ _ _ _=>by kernel_rfl),BF (Ae.refl b) (fun _ _ _ _=>by kernel_rfl),?_,?_,?_,BF (Ae.refl b) (fun _ _ _ _=>by kernel_rfl),BF (Ae.refl b) (fun _ _ _ _=>by kernel_rfl),?_,?_,?_,trivial⟩
  · refine ⟨fun _ _ _ _ _ h=>h,fun vals u hC hb=>?_⟩
    obtain ⟨h1,_⟩:=hb
    exact AH.knownE [(140,1,MH w)] (by kernel_rfl) ⟨(List.cons.inj h1).1,trivial⟩ (AH.reads ⟨0,BM w r (.slice vA rs.length vc) X,(1,1),[]⟩ hC.ph.lies.sat.good (.slice vA rs.length vc) ⟨hC,.refl _ _,rfl⟩)
  · refine ⟨fun _ _ _ _ _ h=>h,fun vals u hC hb=>?_⟩
    obtain ⟨_,h2,_⟩:=hb
    exact AH.knownE [(141,2,.slice vA rs.length vc)] (by kernel_rfl) ⟨(List.cons.inj h2).1,trivial⟩ (AH.value (v:=D rs.length) (w':=u) ⟨hC,.refl _ _,rfl⟩)
  · refine ⟨fun _ _ _ _ _ h=>h,fun vals u hC hb=>?_⟩
    obtain ⟨k0,_,_,k3,_⟩:=hb
    refine AH.call (f:=35) [.tmp 139,.tmp 142] (args:=[pt b 0,D rs.length]) (ats:=#[57,3]) rfl ?_ (BW _ _) ?_
    · rw [show [.tmp 139,.tmp 142].map (C0 168 (Aw E (GR b w H wl i)) VA vals)=[vals 0,vals 3] by kernel_rfl,(List.cons.inj k0).1,(List.cons.inj k3).1]
    · refine (CE b ns rs.length u hC.ph.tape (by omega) (by omega)).mono ?_
      rintro e u' ⟨k,hk,rfl,hT,hB⟩
      exact ⟨_,rfl,hC.call hT hB,hB,k,by omega,rfl⟩
  · refine ⟨fun _ _ _ _ _ h=>h,fun vals u hC hb=>?_⟩
    obtain ⟨h1,_⟩:=hb
    exact AH.knownE [(145,6,MH w)] (by kernel_rfl) ⟨(List.cons.inj h1).1,trivial⟩ (AH.reads ⟨0,BM w r (.slice vA rs.length vc) X,(1,1),[]⟩ hC.ph.lies.sat.good (.slice vA rs.length vc) ⟨hC,.refl _ _,rfl⟩)
  · refine ⟨fun _ _ _ _ _ h=>h,fun vals u hC hb=>?_⟩
    obtain ⟨_,h2,_⟩:=hb
    exact AH.knownE [(146,7,.slice vA rs.length vc)] (by kernel_rfl) ⟨(List.cons.inj h2).1,trivial⟩ (AH.value (v:=D rs.length) (w':=u) ⟨hC,.refl _ _,rfl⟩)
  · refine ⟨fun _ _ _ _ _ h=>h,fun vals u hC hb=>?_⟩
    obtain ⟨_,_,_,_,_,k5,_,_,k8,_⟩:=hb
    refine AH.call (f:=35) [.tmp 144,.tmp 147] (args:=[pt b 0,D rs.length]) (ats:=#[57,3]) rfl ?_ (BW _ _) ?_
    · rw [show [.tmp 144,.tmp 147].map (C0 168 (Aw E (GR b w H wl i)) VA vals)=[vals 5,vals 8] by kernel_rfl,(List.cons.inj k5).1,(List.cons.inj k8).1]
    · refine (CE b ns rs.length u hC.ph.tape (by omega) (by omega)).mono ?_
      rintro e u' ⟨k,hk,rfl,hT,hB⟩
      exact ⟨_,rfl,hC.call hT hB,hB,k,by omega,rfl⟩
set_option maxRecDepth 100000 in
set_option maxHeartbeats 1000000 in
theorem bT {vA:Option Addr} {vc:Nat} (hA:Ag b ns (max 1 H) w r (.slice vA rs.length vc) (.slice vA rs.length vc) X rs wx) (h1:1≤rs.length) (h2:rs.length≤1000) {R:Ending→World→Prop} {td:List Item} (hd:Fc td=some F3)
    (hk:∀ n m u E',n < rs.length→m < rs.length→Ag b ns (max 1 H) w r (.slice vA rs.length vc) (.slice vA rs.length vc) X rs u→At Tryz.prog 12 R (AP td) (Fr 168 (Aw E' (Jf b w H wl i n m))) u) :
    At Tryz.prog 12 R td (Fr 168 (Aw E (GR b w H wl i))) wx:=by
  have hlt:=hA.ph.lt
  refine C4 F3 (hd:=hd) 12 ?_
  refine CG (fuel:=2) (L:=KQ b w (.slice vA rs.length vc) rs.length) (W:=VA) (C:=fun u=>Ag b ns (max 1 H) w r (.slice vA rs.length vc) (.slice vA rs.length vc) X rs u) (Ext:=Ae b) (hok:=(uB b w (.slice vA rs.length vc) rs.length)) (hA.below (Below.refl _ _).drew) (Ae.refl b) (fun _ _ _=>Ae.trans) (gi hlt h1 h2) rfl ?_
  intro vals u hC _ hall
  obtain ⟨_,_,_,_,⟨n,hn,e4⟩,_,_,_,_,⟨m,hm,e9⟩,_⟩:=hall
  let z0:=KQ b w (.slice vA rs.length vc) rs.length
  let z1:=Array.replicate 12 false
  have r1:Region.ready .any F3 ((z0.map (·.idx)).foldl (fun b i=>b.setIfInBounds i true) z1)=[10]:=by kernel_rfl
  have r2:Region.ready .any F3 (((z0.map (·.idx)).foldl (fun b i=>b.setIfInBounds i true) z1).setIfInBounds 10 true)=[11]:=by kernel_rfl
  have r3:Region.ready .any F3 ((((z0.map (·.idx)).foldl (fun b i=>b.setIfInBounds i true) z1).setIfInBounds 10 true).setIfInBounds 11 true)=[]:=by kernel_rfl
  have qs:((143,vals 4) :: (148,vals 9) :: GR b w H wl i).map (fun p=>Eu F3 vals (z0.map (·.idx)) (Aw E (GR b w H wl i)) p.1)=((143,vals 4) :: (148,vals 9) :: GR b w H wl i).map (·.2):=by kernel_rfl
  generalize (z0.map (·.idx)).foldl (fun b i=>b.setIfInBounds i true) z1=lst at *
  generalize Eu F3 vals (z0.map (·.idx)) (Aw E (GR b w H wl i))=E8 at *
  rw [← Fy qs,show vals 4=D n from e4,show vals 9=D m from e9]
  refine FL (fuel:=1) (F3.getD 10 default) ⟨u.heap.size,BM w r (.slice vA rs.length vc) X,(0,0),[]⟩ ⟨u.heap.size,BM w r (.slice vA rs.length vc) X,(0,0),[]⟩ (.value (D n)) (D n) r1 (.inl rfl) hC.ph.lies rfl fun u3 hL9 hK9=>?_
  have A9:=hC.run hK9 hL9 (fun e he=>.inl ⟨e,he,rfl⟩)
  rw [show (F3.getD 10 default).dst=some 15 by kernel_rfl]
  refine FL (fuel:=0) (F3.getD 11 default) ⟨u3.heap.size,BM w r (.slice vA rs.length vc) X,(0,0),[]⟩ ⟨u3.heap.size,BM w r (.slice vA rs.length vc) X,(0,0),[]⟩ (.value (D m)) (D m) r2 (.inl rfl) A9.ph.lies rfl fun u4 hL10 hK10=>?_
  have A10:=A9.run hK10 hL10 (fun e he=>.inl ⟨e,he,rfl⟩)
  rw [show (F3.getD 11 default).dst=some 16 by kernel_rfl]
  refine Cy (hr:=r3) ⟨rfl,At.mid ?_⟩
  exact EQ (Jf b w H wl i n m) (by kernel_rfl) fun E'=>hk n m u4 E' hn hm A10
theorem MA {g N cap:Nat} {a:Value} {u d:World} (l:b < w.heap.size) (h:GM (max 1 H) (SA w (.slice (some ⟨g,0,none⟩) N cap) X) a u) (he:GF b g u d):GM (max 1 H) (SA w (.slice (some ⟨g,0,none⟩) N cap) X) a d:=by
  obtain ⟨x,cs,j,i,f⟩:=h
  exact ⟨x,cs,j,i.keep he.size (fun k c hl=>⟨c,he.block k hl (by have:=c.1; omega) (fun e=>c.2.1 (by rw [e]; rfl))⟩),f⟩
set_option maxRecDepth 100000 in
set_option maxHeartbeats 1000000 in
theorem gh {g N cap n m:Nat} (hlt:b < w.heap.size) (hn:n < N) (hm:m < N):GW Tryz.prog J6 168 (Aw E (Jf b w H wl i n m)) L6 (fun u=>∃ rs':List (List Value),rs'.length=N∧Ag b ns (max 1 H) w r (.slice (some ⟨g,0,none⟩) N cap) (.slice (some ⟨g,0,none⟩) N cap) X rs' u) (GF b g) (Od (max 1 H) w X g N cap n m) (Od (max 1 H) w X g N cap n m):=by
  refine ⟨BF (GF.refl b g) (fun _ _ _ _=>by kernel_rfl),?_,BF (GF.refl b g) (fun _ _ _ _=>by kernel_rfl),BF (GF.refl b g) (fun _ _ _ _=>by kernel_rfl),?_,BF (GF.refl b g) (fun _ _ _ _=>by kernel_rfl),
    BF (GF.refl b g) (fun _ _ _ _=>by kernel_rfl),?_,BF (GF.refl b g) (fun _ _ _ _=>by kernel_rfl),?_,?_,BF (GF.refl b g) (fun _ _ _ _=>by kernel_rfl),?_,BF (GF.refl b g) (fun _ _ _ _=>by kernel_rfl),?_,?_,?_,?_,?_,?_,trivial⟩
  · refine ⟨fun _ _ _ _ _ h=>h,fun vals u hC hb=>?_⟩
    obtain ⟨h1,_⟩:=hb
    have hC2:=hC
    obtain ⟨rs',hl,hA⟩:=hC2
    exact AH.knownE [(149,0,MH w)] (by kernel_rfl) ⟨(List.cons.inj h1).1,trivial⟩ (AH.reads ⟨0,BM w r (.slice (some ⟨g,0,none⟩) N cap) X,(1,1),[]⟩ hA.ph.lies.sat.good (.slice (some ⟨g,0,none⟩) N cap) ⟨hC,.refl _ _ _,rfl⟩)
  · refine ⟨fun _ _ _ _ _ h=>h,fun vals u hC hb=>?_⟩
    obtain ⟨h1,_⟩:=hb
    have hC2:=hC
    obtain ⟨rs',hl,hA⟩:=hC2
    exact AH.knownE [(152,3,MH w)] (by kernel_rfl) ⟨(List.cons.inj h1).1,trivial⟩ (AH.reads ⟨0,BM w r (.slice (some ⟨g,0,none⟩) N cap) X,(1,1),[]⟩ hA.ph.lies.sat.good (.slice (some ⟨g,0,none⟩) N cap) ⟨hC,.refl _ _ _,rfl⟩)
  · refine ⟨fun _ _ _ _ _ h=>h,fun vals u hC hb=>?_⟩
    obtain ⟨h1,_⟩:=hb
    have hC2:=hC
    obtain ⟨rs',hl,hA⟩:=hC2
    exact AH.knownE [(155,6,MH w)] (by kernel_rfl) ⟨(List.cons.inj h1).1,trivial⟩ (AH.reads ⟨0,BM w r (.slice (some ⟨g,0,none⟩) N cap) X,(1,1),[]⟩ hA.ph.lies.sat.good (.slice (some ⟨g,0,none⟩) N cap) ⟨hC,.refl _ _ _,rfl⟩)
  · refine ⟨fun _ _ _ _ _ h=>h,fun vals u hC hb=>?_⟩
    obtain ⟨_,hx,hi,_⟩:=hb
    exact AH.knownE [(156,7,(.slice (some ⟨g,0,none⟩) N cap)),(157,8,D m)] (by kernel_rfl) ⟨(List.cons.inj hx).1,(List.cons.inj hi).1,trivial⟩ (AH.indexAt 36 (.tmp 156) (.tmp 157) (by kernel_rfl) (len:=N) (cap:=cap) (k:=m) (sz:=21) (e:=34) (by kernel_rfl) (by kernel_rfl) hm (by kernel_rfl) (by kernel_rfl) ⟨hC,.refl _ _ _,rfl⟩)
  · refine ⟨fun _ u u' _ he h=>MA hlt h he,fun vals u hC hb=>?_⟩
    obtain ⟨_,_,_,hp,_⟩:=hb
    have hC2:=hC
    obtain ⟨rs',hl,hA⟩:=hC2
    subst hl
    obtain ⟨q,hq⟩:∃ q,rs'[m]?=some q:=⟨_,List.getElem?_eq_getElem hm⟩
    obtain ⟨d,hd,hdf⟩:=hA.ok q (List.mem_of_getElem? hq)
    exact AH.loadMid 34 (.tmp 158) ((by kernel_rfl:C0 168 (Aw E (Jf b w H wl i n m)) L6 vals (.tmp 158)=vals 9).trans (List.cons.inj hp).1) q (hA.row hq) (hi:=by rw [hdf.len]; kernel_rfl) ⟨hC,.refl _ _ _,d,q,hd,hdf,rfl⟩
  · refine ⟨fun _ _ _ _ _ h=>h,fun vals u hC hb=>?_⟩
    obtain ⟨h1,_⟩:=hb
    have hC2:=hC
    obtain ⟨rs',hl,hA⟩:=hC2
    exact AH.knownE [(160,11,MH w)] (by kernel_rfl) ⟨(List.cons.inj h1).1,trivial⟩ (AH.reads ⟨0,BM w r (.slice (some ⟨g,0,none⟩) N cap) X,(1,1),[]⟩ hA.ph.lies.sat.good (.slice (some ⟨g,0,none⟩) N cap) ⟨hC,.refl _ _ _,rfl⟩)
  · refine ⟨fun _ _ _ _ _ h=>h,fun vals u hC hb=>?_⟩
    obtain ⟨_,hx,hi,_⟩:=hb
    exact AH.knownE [(161,12,(.slice (some ⟨g,0,none⟩) N cap)),(162,13,D n)] (by kernel_rfl) ⟨(List.cons.inj hx).1,(List.cons.inj hi).1,trivial⟩ (AH.indexAt 36 (.tmp 161) (.tmp 162) (by kernel_rfl) (len:=N) (cap:=cap) (k:=n) (sz:=21) (e:=34) (by kernel_rfl) (by kernel_rfl) hn (by kernel_rfl) (by kernel_rfl) ⟨hC,.refl _ _ _,rfl⟩)
  · refine ⟨fun _ u u' _ he h=>MA hlt h he,fun vals u hC hb=>?_⟩
    obtain ⟨_,_,_,hp,_⟩:=hb
    have hC2:=hC
    obtain ⟨rs',hl,hA⟩:=hC2
    subst hl
    obtain ⟨q,hq⟩:∃ q,rs'[n]?=some q:=⟨_,List.getElem?_eq_getElem hn⟩
    obtain ⟨d,hd,hdf⟩:=hA.ok q (List.mem_of_getElem? hq)
    exact AH.loadMid 34 (.tmp 163) ((by kernel_rfl:C0 168 (Aw E (Jf b w H wl i n m)) L6 vals (.tmp 163)=vals 14).trans (List.cons.inj hp).1) q (hA.row hq) (hi:=by rw [hdf.len]; kernel_rfl) ⟨hC,.refl _ _ _,d,q,hd,hdf,rfl⟩
  · refine ⟨fun _ _ _ _ _ h=>h,fun vals u hC hb=>?_⟩
    obtain ⟨_,hx,hi,_⟩:=hb
    exact AH.knownE [(150,1,(.slice (some ⟨g,0,none⟩) N cap)),(151,2,D n)] (by kernel_rfl) ⟨(List.cons.inj hx).1,(List.cons.inj hi).1,trivial⟩ (AH.indexAt 36 (.tmp 150) (.tmp 151) (by kernel_rfl) (len:=N) (cap:=cap) (k:=n) (sz:=21) (e:=34) (by kernel_rfl) (by kernel_rfl) hn (by kernel_rfl) (by kernel_rfl) ⟨hC,.refl _ _ _,rfl⟩)
  · refine ⟨fun _ _ _ _ _ h=>h,fun vals u hC hb=>?_⟩
    obtain ⟨_,_,_,_,_,_,_,⟨d,q,hd,hdf,eq⟩,_,_,_,_,_,hp,_⟩:=hb
    obtain ⟨rs',hl,hA⟩:=hC
    subst hl
    obtain ⟨ht,hA2,hB2⟩:=hA.store (i:=n) hn hd hdf
    have hcs:=hdf.len
    refine AH.storeMid 34 (.tmp 165) (.tmp 159) (by kernel_rfl) q ((by kernel_rfl:C0 168 (Aw E (Jf b w H wl i n m)) L6 vals (.tmp 165)=vals 16).trans (List.cons.inj hp).1) ((by kernel_rfl:C0 168 (Aw E (Jf b w H wl i n m)) L6 vals (.tmp 159)=vals 10).trans eq) (by rw [hcs]; exact ht) (by rw [hcs]; kernel_rfl) ?_ ⟨⟨rs'.set n q,by simp,?_⟩,hB2,trivial⟩
    · obtain ⟨_,_,_,_,_,_,_,_,_,_,_,_,_,_,rfl⟩:=hdf.cells
      rfl
    · rw [List.length_set] at hA2; exact hA2
  · refine ⟨fun _ _ _ _ _ h=>h,fun vals u hC hb=>?_⟩
    obtain ⟨_,_,_,_,hx,hi,_⟩:=hb
    exact AH.knownE [(153,4,(.slice (some ⟨g,0,none⟩) N cap)),(154,5,D m)] (by kernel_rfl) ⟨(List.cons.inj hx).1,(List.cons.inj hi).1,trivial⟩ (AH.indexAt 36 (.tmp 153) (.tmp 154) (by kernel_rfl) (len:=N) (cap:=cap) (k:=m) (sz:=21) (e:=34) (by kernel_rfl) (by kernel_rfl) hm (by kernel_rfl) (by kernel_rfl) ⟨hC,.refl _ _ _,rfl⟩)
  · refine ⟨fun _ _ _ _ _ h=>h,fun vals u hC hb=>?_⟩
    obtain ⟨_,_,_,_,_,_,_,_,_,_,_,_,_,_,_,⟨d,q,hd,hdf,eq⟩,_,_,hp,_⟩:=hb
    obtain ⟨rs',hl,hA⟩:=hC
    subst hl
    obtain ⟨ht,hA2,hB2⟩:=hA.store (i:=m) hm hd hdf
    have hcs:=hdf.len
    refine AH.storeMid 34 (.tmp 166) (.tmp 164) (by kernel_rfl) q ((by kernel_rfl:C0 168 (Aw E (Jf b w H wl i n m)) L6 vals (.tmp 166)=vals 18).trans (List.cons.inj hp).1) ((by kernel_rfl:C0 168 (Aw E (Jf b w H wl i n m)) L6 vals (.tmp 164)=vals 15).trans eq) (by rw [hcs]; exact ht) (by rw [hcs]; kernel_rfl) ?_ ⟨⟨rs'.set m q,by simp,?_⟩,hB2,trivial⟩
    · obtain ⟨_,_,_,_,_,_,_,_,_,_,_,_,_,_,rfl⟩:=hdf.cells
      rfl
    · rw [List.length_set] at hA2; exact hA2
set_option maxRecDepth 100000 in
set_option maxHeartbeats 1000000 in
theorem bS {g cap n m:Nat} (hA:Ag b ns (max 1 H) w r (.slice (some ⟨g,0,none⟩) rs.length cap) (.slice (some ⟨g,0,none⟩) rs.length cap) X rs wx) (hn:n < rs.length) (hm:m < rs.length) {R:Ending→World→Prop} {td:List Item} (hd:Fc td=some J6)
    (hk:∀ rs' u E',rs'.length=rs.length→Ag b ns (max 1 H) w r (.slice (some ⟨g,0,none⟩) rs.length cap) (.slice (some ⟨g,0,none⟩) rs.length cap) X rs' u→At Tryz.prog 12 R (AP td) (Fr 168 (Aw E' (GR b w H wl i))) u) :
    At Tryz.prog 12 R td (Fr 168 (Aw E (Jf b w H wl i n m))) wx:=by
  have hlt:=hA.ph.lt
  refine C4 J6 (hd:=hd) 20 ?_
  refine CG (fuel:=0) (L:=Od (max 1 H) w X g rs.length cap n m) (W:=L6) (C:=fun u=>∃ rs':List (List Value),rs'.length=rs.length∧Ag b ns (max 1 H) w r (.slice (some ⟨g,0,none⟩) rs.length cap) (.slice (some ⟨g,0,none⟩) rs.length cap) X rs' u) (Ext:=GF b g) (hok:=(uA (max 1 H) w X g rs.length cap n m)) ⟨rs,rfl,hA.below (Below.refl _ _).drew⟩ (GF.refl b g) (fun _ _ _=>GF.trans) (gh hlt hn hm) rfl ?_
  intro vals u hC _ hall
  obtain ⟨rs',hl,hA2⟩:=hC
  have r1:Region.ready .any J6 (((Od (max 1 H) w X g rs.length cap n m).map (·.idx)).foldl (fun b i=>b.setIfInBounds i true) (Array.replicate 20 false))=[]:=by kernel_rfl
  have qs:(GR b w H wl i).map (fun p=>Eu J6 vals ((Od (max 1 H) w X g rs.length cap n m).map (·.idx)) (Aw E (Jf b w H wl i n m)) p.1)=(GR b w H wl i).map (·.2):=by kernel_rfl
  refine Cy (hr:=r1) ⟨rfl,At.mid ?_⟩
  exact EQ (GR b w H wl i) qs fun E'=>hk rs' u E' hl hA2
end
end Go.Proofs.YtmcpjkcggfmcmaaGreatDoor

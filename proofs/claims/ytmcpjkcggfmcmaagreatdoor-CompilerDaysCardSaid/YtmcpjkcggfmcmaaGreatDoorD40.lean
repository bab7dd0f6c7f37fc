/-
  Part 40 of a proof: contracts of functions.
-/
import Derived.Test.YtmcpjkcggfmcmaaGreatDoorD39
import Derived.Test.YtmcpjkcggfmcmaaGreatDoorD11
import Derived.Laws.Append
import Derived.OwnWalk
import Derived.Test.YtmcpjkcggfmcmaaGreatDoorD01
set_option linter.all false
namespace Go.Proofs.YtmcpjkcggfmcmaaGreatDoor
theorem Nh (k:Bool):∀ l,Ep k l=k
 | []=>by rw [Ep]
 | e :: l=>by rw [Ep,Nh k l]; simp
theorem Ni:∀ l,EM l=true
 | []=>by rw [EM]
 | e :: l=>by rw [EM,Nh,Ni l]; simp
theorem Nj (k:Bool):∀ l,Eq k l=k
 | []=>by rw [Eq]
 | e :: l=>by rw [Eq,Nj k l]; simp
theorem Nk (r:List DL):∀ l,EN r l=true
 | []=>by rw [EN,Ni]
 | e :: l=>by rw [EN,Nj,Nk r l]; simp
theorem Nl (s:List (List (Int×Int×Int))) (r:List DL):∀ l,Er s r l=true
 | []=>by rw [Er,Nk]
 | e :: l=>by rw [Er,Nl s r l]; simp
theorem Nm (s:List (List (Int×Int×Int))) (p:List (List UInt8)) (r:List DL):∀ l,FN s p r l=true
 | []=>by rw [FN,Nl]
 | e :: l=>by rw [FN,Nm s p r l]; simp
theorem Yy (i:List (List UInt8)) (s:List (List (Int×Int×Int))) (p:List (List UInt8)) (r:List DL):EJ i s p r=true:=by
 unfold EJ
 rw [Nm]
 simp
end Go.Proofs.YtmcpjkcggfmcmaaGreatDoor
namespace Go.Proofs.YtmcpjkcggfmcmaaGreatDoor
theorem U6 {P:Program} {w:World} (base:Nat) (t ty e:TypeId) (i:TypeInfo) (z:Value) (size bytes:Nat) (ht:P.underlying t=some (.slice e)) (hi:P.info? e=some i) (hz:i.zero=some z)
  (p:i.size=size) (a0:i.bytes=bytes) (v:Value) (n:Nat) (xs:List Value) (l:w.ownsRow base e size v n xs)
  (a:Addr) (m c:Nat) (b:List Value) (hl:b.length=m * size) (f:∀ j u,b[j]?=some u→w.cell? (a.add j)=some u) (h1:∀ u∈b,u.oneCell'=true) (hm:0 < m)
  (b0:n + m≤maxLen) (h:(n + m) * bytes≤140737488355328) {v':Value} {w':World} (hr:(Builtin.append_ #[t,t] ty #[v,.slice (some a) m c]).run P w=.ok v' w') :
  ∀ g,v'.ownBlock=some g→v.ownBlock=some g∨w.heap.size≤g:=by
 subst p
 subst a0
 have s:n + m≤9223372036854775807:=by simp only [maxLen] at b0; omega
 rcases l.2 with ⟨rfl,rfl⟩ | ⟨g,cap,r,rfl,e0,hg,c0,d0,y,x⟩
 ·have d:=run_append_nil (P:=P) w t ty e i z ht hi hz a m c b hl f hm (by omega) (by have hb:=h; simp only [Nat.zero_add] at hb; omega)
  rw [hr] at d
  injection d with e1 e2
  intro k o
  rw [e1] at o
  simp [Value.ownBlock] at o
  right; omega
 ·by_cases hroom:n + m≤cap
  ·have q:n * i.size + b.length≤r.size:=by rw [hl,y,← Nat.add_mul]; exact Nat.mul_le_mul_right _ hroom
   have d:=run_append_room (P:=P) w t ty e i ht hi g n cap r hg a m c b hl f h1 hroom q
   rw [hr] at d
   injection d with e1 e2
   intro k o
   rw [e1] at o
   left
   simpa [Value.ownBlock] using o
  ·have holds:∀ j u,xs[j]?=some u→w.cell? ((⟨g,0,none⟩:Addr).add j)=some u:=l.cells (g:=g) rfl
   have d:=run_append_grow (P:=P) w t ty e i z ht hi hz ⟨g,0,none⟩ n cap xs l.1 holds a m c b hl f (by omega) (by omega) (growslice_fits (by omega) h)
   rw [hr] at d
   injection d with e1 e2
   intro k o
   rw [e1] at o
   simp [Value.ownBlock] at o
   right; omega
theorem Jp {P:Program} {w:World} {o:Oper} {a:Act} {K:Act→World→Prop} {Q:Exit→Act→World→Prop} (s x:Operand) (t:TypeId)
  (ho:o.op=.call { callee:=.builtin .append,args:=#[s,x],argTypes:=#[t,t] })
  (base:Nat) (e:TypeId) {z:Value} {size bytes:Nat} (ht:P.underlying t=some (.slice e)) (p:(P.info? e).map (fun i=>(i.zero,i.size,i.bytes))=some (some z,size,bytes)) (b0:z.cells.size=size) (c0:0 < size)
  (v:Value) (n:Nat) (xs:List Value) (hs:a.eval s=v) (l:w.ownsRow base e size v n xs)
  (ad:Addr) (m c:Nat) (b:List Value) (hx:a.eval x=.slice (some ad) m c) (hl:b.length=m * size) (k:∀ j u,b[j]?=some u→w.cell? (ad.add j)=some u) (h1:∀ u∈b,u.oneCell'=true) (hm:0 < m)
  (a0:n + m≤maxLen) (d:(n + m) * bytes≤140737488355328) (q:base≤w.heap.size)
  (h:∀ r w',w'.ownsRow base e size r (n + m) (xs++b)→w.grownBy w' v.ownBlock→(∀ g,r.ownBlock=some g→v.ownBlock=some g∨w.heap.size≤g)→K (a.put o.dst r) w'):o.wp P a w K Q:=by
 obtain ⟨i,hi,hz,f,y⟩:=info_parts p
 obtain ⟨r,w',hr,h2,h3,h4⟩:=run_append_own (P:=P) w base t o.type e i z size bytes ht hi hz f y b0 c0 v n xs l ad m c b hl k h1 a0 d q
 have hw:=U6 base t o.type e i z size bytes ht hi hz f y v n xs l ad m c b hl k h1 hm a0 d hr
 unfold Oper.wp execOp
 simp only [ho,resolve,invoke,builtin,Sem.run_bind,Sem.run_pure,Result.andThen_ok,List.map_toArray,List.map_cons,List.map_nil,hs,hx,hr]
 exact h r w' h2 h3 hw
end Go.Proofs.YtmcpjkcggfmcmaaGreatDoor
namespace Go.Proofs.YtmcpjkcggfmcmaaGreatDoor
open Go.RowKit
def Jk (a b:Int):Value:=.agg #[D a,D b]
def ptr (b o:Nat):Value:=.pointer (some ⟨b,o,none⟩)
def Et (l:List Int):List Value:=l.map (Value.int .i64)
noncomputable def Dp:Array Oper:=ID Tryz.f36 26
def Hv:Wr:=[(157,0),(158,1),(159,2),(160,3),(161,4),(162,5),(163,6),(164,7),(165,8),(166,9),(167,10),(168,11),(169,12),(170,13),(171,14),(172,15),(173,16),(174,17),(175,18)]
theorem Fm {b B:Nat} {w w':World} {o:Obj} (h:w.heap[B]?=some o) (hb:B≠b) (he:Ae b w w'):w'.heap[B]?=some o:=(he.block _ (Ak h) hb).trans h
def Hz:List (Int×Int):=[(1,1),(1,100),(1,4)]
def Fb (b:Nat) (C:List Value) (T:TypeId) (n:Nat) (v:Value) (w:World):Prop:=∃ B,v=.slice (some ⟨B,0,none⟩) n n∧w.heap[B]?=some (.cells C.toArray T (0,0))∧B≠b
def GX (n:Nat) (v:Value):Prop:=∃ k:Nat,k < n∧v=D k
def DK (m lo:Nat) (v:Value) (w:World):Prop:=∃ x cs,Dr m x∧BX lo w x cs∧v=.agg cs.toArray
def I1 (m lo:Nat) (v:Value) (w:World):Prop:=∃ x cs B,Dr m x∧BX lo w x cs∧lo≤B∧v=.slice (some ⟨B,0,none⟩) 1 1∧w.heap[B]?=some (.cells cs.toArray 32 (0,0))
def Tf (b:Nat) (v:Value) (w:World):Prop:=∃ B k:Nat,k < 3∧v=ptr B (k * 2)∧w.heap[B]?=some (.cells (Et [1,1,1,100,1,4]).toArray 29 (0,0))∧B≠b
def Td (v:Value):Prop:=∃ x,x∈Hz∧v=Jk x.1 x.2
def Hd (b m lo tyB:Nat) (tm th td:Int) (a0:Act):List Ci:=
  [AN 0 [] (Jk 1 1),AN 1 [] (Jk 1 100),AN 2 [] (Jk 1 4),
   ⟨3,[0,1,2],[3],fun vs w=>Fb b (Et [1,1,1,100,1,4]) 29 3 (vs.getD 0 undef) w⟩,
   AN 4 [] (a0.eval (.tmp 0)),
   ⟨5,[4],[5],fun vs _=>GX 3 (vs.getD 0 undef)⟩,
   ⟨6,[0,1,2,3,4,5],[6],fun vs w=>Tf b (vs.getD 0 undef) w⟩,
   ⟨7,[0,1,2,3,4,5,6],[7],fun vs _=>Td (vs.getD 0 undef)⟩,
   AN 8 [] (ptr tyB 1),
   AN 9 [8] (.agg #[D tm,D th,D td]),
   AN 10 [] (a0.eval (.tmp 0)),
   ⟨11,[4,5,10],[11],fun vs _=>GX 7 (vs.getD 0 undef)⟩,
   AN 12 [] (a0.eval (.tmp 0)),
   AN 13 [] (.agg #[.bool false,D tm,D th,D td]),
   AN 14 [] (a0.eval (.tmp 9)),AN 15 [] (a0.eval (.tmp 3)),
   ⟨16,[4,5,10,11,12,13,14,15],[16],fun vs w=>DK m lo (vs.getD 0 undef) w⟩,
   ⟨17,[4,5,10,11,12,13,14,15,16],[17],fun vs w=>I1 m lo (vs.getD 0 undef) w⟩,
   ⟨18,[0,1,2,3,4,5,6,7,8,9,10,11,12,13,14,15,16,17],[18],fun vs w=>∃ num den mode K,I1 m lo K w∧(num,den)∈Hz∧0≤mode∧mode≤6∧vs=[.agg #[D 19,D num,D den,D tm,D th,D td,.string ⟨#[]⟩,D 0,D mode,K]]⟩]
theorem wm (b m lo a:Nat) (tm th td:Int) (a0:Act) (hs:a0.tmps.size=275):(EY .any Dp Hv (Array.replicate 20 false) a0.tmps.size (Hd b m lo a tm th td a0) && bare Dp (Hd b m lo a tm th td a0))=true:=by rw [hs]; kernel_rfl
theorem cX (args:List Value) (w:World):(callFunc 35 args.toArray).run Tryz.prog w=.ok (.enter 35 args.toArray) w:=by kernel_rfl
theorem Il (args:List Value) (w:World):(callFunc 36 args.toArray).run Tryz.prog w=.ok (.enter 36 args.toArray) w:=by kernel_rfl
theorem BX.cells' {lo:Nat} {w:World} {x:Ex} {cs:List Value} (h:BX lo w x cs):∃ (a0 g a2 a3 a4 a5:Int) (f:List UInt8) (e d:Int) (A:Option Addr) (n c:Nat),cs=[D a0,D g,D a2,D a3,D a4,D a5,.string ⟨f.toArray⟩,D e,D d,.slice A n c]:=by
  obtain ⟨op,num,den,mu,hu,du,name,a,mode,b⟩:=x
  unfold BX at h
  obtain ⟨A,c,ks,rfl,_⟩:=h
  exact ⟨_,_,_,_,_,_,_,_,_,_,_,_,rfl⟩
section
variable {b n lo g:Nat} {ns:List Int} {s:Bool×Int×Int×Int} {tm th td:Int} {w:World} {a0:Act} {rules h:Int}
abbrev Iy (b:Nat) (ns:List Int) (tm th td:Int) (s:Bool×Int×Int×Int) (g m lo:Nat) (w:World):World→Prop:=fun wx=>Jb b ns (false,tm,th,td) s g m lo w [] [] wx
set_option maxRecDepth 100000 in
theorem hD (hlt:b < w.heap.size):DU Tryz.prog Dp a0 Hv (Iy b ns tm th td s g (max 1 n) lo w) (Ae b) (Hd b (max 1 n) lo w.heap.size tm th td a0) ⟨3,[0,1,2],[3],fun vs w=>Fb b (Et [1,1,1,100,1,4]) 29 3 (vs.getD 0 undef) w⟩:=by
  refine ⟨fun vs u u' hC he ⟨B,h1,h2,h3⟩=>⟨B,h1,Fm h2 h3 he,h3⟩,fun vals u hC hb=>?_⟩
  obtain ⟨h0,h1,h2,_⟩:=hb
  refine AH.known [(157,0,Jk 1 1),(158,1,Jk 1 100),(159,2,Jk 1 4)] [] (by kernel_rfl) ⟨(List.cons.inj h0).1,(List.cons.inj h1).1,(List.cons.inj h2).1,trivial⟩ trivial (AH.value (v:=.slice (some ⟨u.heap.size,0,none⟩) 3 3) (w':=u.alloc (.cells (Et [1,1,1,100,1,4]).toArray 29)) ⟨?_,?_,?_⟩)
  · exact hC.below hlt ((Below.refl _ _).alloc (Nat.le_refl _) _)
  · exact .of_below ((Below.refl _ _).alloc (Nat.le_refl _) _)
  · exact ⟨u.heap.size,rfl,heap_alloc_new _ _,by have:=hC.st.tape.lt; omega⟩
set_option maxRecDepth 100000 in
theorem g9 (hlt:b < w.heap.size) (h0:a0.eval (.tmp 0)=ptr b 0):DU Tryz.prog Dp a0 Hv (Iy b ns tm th td s g (max 1 n) lo w) (Ae b) (Hd b (max 1 n) lo w.heap.size tm th td a0) ⟨5,[4],[5],fun vs _=>GX 3 (vs.getD 0 undef)⟩:=by
  refine ⟨fun vs u u' hC he h=>h,fun vals u hC hb=>?_⟩
  obtain ⟨h4,_⟩:=hb
  refine AH.call (f:=35) [.tmp 161,.const (D 3)] (args:=[ptr b 0,D 3]) (ats:=#[57,3]) rfl ?_ (cX _ _) ?_
  · rw [show [.tmp 161,.const (D 3)].map (CM a0 Hv vals)=[vals 4,D 3] by kernel_rfl]
    rw [(List.cons.inj h4).1,h0]
  · refine (CE b ns 3 u hC.st.tape (by omega) (by omega)).mono ?_
    rintro e u' ⟨k,hk,rfl,hT,hB⟩
    exact ⟨_,rfl,hC.step hlt hT hB,hB,k,by omega,rfl⟩
set_option maxRecDepth 100000 in
theorem bv (hlt:b < w.heap.size) (h0:a0.eval (.tmp 0)=ptr b 0):DU Tryz.prog Dp a0 Hv (Iy b ns tm th td s g (max 1 n) lo w) (Ae b) (Hd b (max 1 n) lo w.heap.size tm th td a0) ⟨11,[4,5,10],[11],fun vs _=>GX 7 (vs.getD 0 undef)⟩:=by
  refine ⟨fun vs u u' hC he h=>h,fun vals u hC hb=>?_⟩
  obtain ⟨_,_,h10,_⟩:=hb
  refine AH.call (f:=35) [.tmp 167,.const (D 7)] (args:=[ptr b 0,D 7]) (ats:=#[57,3]) rfl ?_ (cX _ _) ?_
  · rw [show [.tmp 167,.const (D 7)].map (CM a0 Hv vals)=[vals 10,D 7] by kernel_rfl]
    rw [(List.cons.inj h10).1,h0]
  · refine (CE b ns 7 u hC.st.tape (by omega) (by omega)).mono ?_
    rintro e u' ⟨k,hk,rfl,hT,hB⟩
    exact ⟨_,rfl,hC.step hlt hT hB,hB,k,by omega,rfl⟩
set_option maxRecDepth 100000 in
theorem g8:DU Tryz.prog Dp a0 Hv (Iy b ns tm th td s g (max 1 n) lo w) (Ae b) (Hd b (max 1 n) lo w.heap.size tm th td a0) ⟨6,[0,1,2,3,4,5],[6],fun vs w=>Tf b (vs.getD 0 undef) w⟩:=by
  refine ⟨fun vs u u' hC he ⟨B,k,h1,h2,h3,h4⟩=>⟨B,k,h1,h2,Fm h3 h4 he,h4⟩,fun vals u hC hb=>?_⟩
  obtain ⟨_,_,_,⟨B,e3,hB,hne⟩,_,⟨k,hk,e5⟩,_⟩:=hb
  have hk3:k=0∨k=1∨k=2:=by omega
  rcases hk3 with rfl | rfl | rfl
  · exact AH.known [(160,3,.slice (some ⟨B,0,none⟩) 3 3),(162,5,D 0)] [] (by kernel_rfl) ⟨e3,e5,trivial⟩ trivial (AH.value (v:=ptr B 0) (w':=u) ⟨hC,.refl _ _,B,0,hk,rfl,hB,hne⟩)
  · exact AH.known [(160,3,.slice (some ⟨B,0,none⟩) 3 3),(162,5,D 1)] [] (by kernel_rfl) ⟨e3,e5,trivial⟩ trivial (AH.value (v:=ptr B 2) (w':=u) ⟨hC,.refl _ _,B,1,hk,rfl,hB,hne⟩)
  · exact AH.known [(160,3,.slice (some ⟨B,0,none⟩) 3 3),(162,5,D 2)] [] (by kernel_rfl) ⟨e3,e5,trivial⟩ trivial (AH.value (v:=ptr B 4) (w':=u) ⟨hC,.refl _ _,B,2,hk,rfl,hB,hne⟩)
set_option maxRecDepth 100000 in
theorem g7:DU Tryz.prog Dp a0 Hv (Iy b ns tm th td s g (max 1 n) lo w) (Ae b) (Hd b (max 1 n) lo w.heap.size tm th td a0) ⟨7,[0,1,2,3,4,5,6],[7],fun vs _=>Td (vs.getD 0 undef)⟩:=by
  refine ⟨fun vs u u' hC he h=>h,fun vals u hC hb=>?_⟩
  obtain ⟨_,_,_,_,_,_,⟨B,k,hk,e6,hB,_⟩,_⟩:=hb
  have hk3:k=0∨k=1∨k=2:=by omega
  rcases hk3 with rfl | rfl | rfl
  · exact AH.loadMid 29 (.tmp 163) ((by kernel_rfl:CM a0 Hv vals (.tmp 163)=vals 6).trans e6) (Et [1,1]) (DF hB 0 _ rfl) ⟨hC,.refl _ _,(1,1),by simp [Hz],rfl⟩
  · exact AH.loadMid 29 (.tmp 163) ((by kernel_rfl:CM a0 Hv vals (.tmp 163)=vals 6).trans e6) (Et [1,100]) (DF hB 2 _ rfl) ⟨hC,.refl _ _,(1,100),by simp [Hz],rfl⟩
  · exact AH.loadMid 29 (.tmp 163) ((by kernel_rfl:CM a0 Hv vals (.tmp 163)=vals 6).trans e6) (Et [1,4]) (DF hB 4 _ rfl) ⟨hC,.refl _ _,(1,4),by simp [Hz],rfl⟩
set_option maxRecDepth 100000 in
theorem g0 (h5:a0.eval (.tmp 5)=ptr w.heap.size 0):DU Tryz.prog Dp a0 Hv (Iy b ns tm th td s g (max 1 n) lo w) (Ae b) (Hd b (max 1 n) lo w.heap.size tm th td a0) (AN 8 [] (ptr w.heap.size 1)):=
  ⟨fun vs u u' hC he h=>h,fun vals u hC hb=>AH.known [] [(5,ptr w.heap.size 0)] (by kernel_rfl) trivial ⟨h5,trivial⟩ (AH.value (v:=ptr w.heap.size 1) (w':=u) ⟨hC,.refl _ _,rfl⟩)⟩
set_option maxRecDepth 100000 in
theorem gz:DU Tryz.prog Dp a0 Hv (Iy b ns tm th td s g (max 1 n) lo w) (Ae b) (Hd b (max 1 n) lo w.heap.size tm th td a0) (AN 9 [8] (.agg #[D tm,D th,D td])):=by
  refine ⟨fun vs u u' hC he h=>h,fun vals u hC hb=>?_⟩
  obtain ⟨h8,_⟩:=hb
  exact AH.loadMid 24 (.tmp 165) ((by kernel_rfl:CM a0 Hv vals (.tmp 165)=vals 8).trans (List.cons.inj h8).1) (Et [tm,th,td]) (DF (l:=[.bool false,D tm,D th,D td]) hC.st.ty 1 _ rfl) ⟨hC,.refl _ _,rfl⟩
set_option maxRecDepth 100000 in
theorem bt (h5:a0.eval (.tmp 5)=ptr w.heap.size 0):DU Tryz.prog Dp a0 Hv (Iy b ns tm th td s g (max 1 n) lo w) (Ae b) (Hd b (max 1 n) lo w.heap.size tm th td a0) (AN 13 [] (.agg #[.bool false,D tm,D th,D td])):=by
  refine ⟨fun vs u u' hC he h=>h,fun vals u hC hb=>?_⟩
  exact AH.loadMid 26 (.tmp 5) ((by kernel_rfl:CM a0 Hv vals (.tmp 5)=a0.eval (.tmp 5)).trans h5) [.bool false,D tm,D th,D td] (DF (l:=[.bool false,D tm,D th,D td]) hC.st.ty 0 _ rfl) ⟨hC,.refl _ _,rfl⟩
set_option maxRecDepth 100000 in
theorem bq (hlt:b < w.heap.size) (IH:Bv b ns n) (hty:(false,tm,th,td)∈BJ) (hn:h≤n) (hh:h≤100) (hl:-100≤h) (hr0:0≤rules) (hr1:rules≤10)
    (h0:a0.eval (.tmp 0)=ptr b 0) (h9:a0.eval (.tmp 9)=D h) (h3:a0.eval (.tmp 3)=D rules):DU Tryz.prog Dp a0 Hv (Iy b ns tm th td s g (max 1 n) lo w) (Ae b) (Hd b (max 1 n) lo w.heap.size tm th td a0) ⟨16,[4,5,10,11,12,13,14,15],[16],fun vs w=>DK (max 1 n) lo (vs.getD 0 undef) w⟩:=by
  refine ⟨fun vs u u' hC he ⟨x,cs,k1,k2,k3⟩=>⟨x,cs,k1,BX.keep (.of_but he (by have:=hC.lo_b; omega)) _ _ k2,k3⟩,fun vals u hC hb=>?_⟩
  obtain ⟨_,_,_,_,k12,k13,k14,k15,_⟩:=hb
  refine AH.call (f:=36) [.tmp 169,.tmp 170,.tmp 171,.tmp 172] (args:=[ptr b 0,.agg #[.bool false,D tm,D th,D td],D h,D rules]) (ats:=#[57,26,3,3]) rfl ?_ (Il _ _) ?_
  · rw [show [.tmp 169,.tmp 170,.tmp 171,.tmp 172].map (CM a0 Hv vals)=[vals 12,vals 13,vals 14,vals 15] by kernel_rfl]
    rw [(List.cons.inj k12).1,(List.cons.inj k13).1,(List.cons.inj k14).1,(List.cons.inj k15).1,h0,h9,h3]
  · refine (IH false tm th td h rules u hC.st.tape hty hn hh hl hr0 hr1).mono ?_
    rintro e u' ⟨x,cs,hx,hex,rfl,hT,hB⟩
    exact ⟨_,rfl,hC.step hlt hT hB,hB,x,cs,hx,BX.mono hC.lo_le _ _ hex,rfl⟩
set_option maxRecDepth 100000 in
theorem bo (hlt:b < w.heap.size):DU Tryz.prog Dp a0 Hv (Iy b ns tm th td s g (max 1 n) lo w) (Ae b) (Hd b (max 1 n) lo w.heap.size tm th td a0) ⟨17,[4,5,10,11,12,13,14,15,16],[17],fun vs w=>I1 (max 1 n) lo (vs.getD 0 undef) w⟩:=by
  refine ⟨fun vs u u' hC he ⟨x,cs,B,k1,k2,k3,k4,k5⟩=>⟨x,cs,B,k1,BX.keep (.of_but he (by have:=hC.lo_b; omega)) _ _ k2,k3,k4,Fm k5 (by have:=hC.lo_b; omega) he⟩,fun vals u hC hb=>?_⟩
  obtain ⟨_,_,_,_,_,_,_,_,⟨x,cs,hx,hex,e16⟩,_⟩:=hb
  have hex2:=hex
  have hal:Below u.heap.size u (u.alloc (.cells cs.toArray 32)):=(Below.refl _ _).alloc (Nat.le_refl _) _
  obtain ⟨x0,x1,x2,x3,x4,x5,x6,x7,x8,A,kn,kc,rfl⟩:=hex2.cells'
  refine AH.known [(173,16,.agg #[D x0,D x1,D x2,D x3,D x4,D x5,.string ⟨x6.toArray⟩,D x7,D x8,.slice A kn kc])] [] (by kernel_rfl) ⟨e16,trivial⟩ trivial (AH.value (v:=.slice (some ⟨u.heap.size,0,none⟩) 1 1) (w':=u.alloc (.cells [D x0,D x1,D x2,D x3,D x4,D x5,.string ⟨x6.toArray⟩,D x7,D x8,.slice A kn kc].toArray 32)) ⟨?_,?_,?_⟩)
  · exact hC.below hlt hal
  · exact .of_below hal
  · exact ⟨x,_,u.heap.size,hx,BX.keep (.of_below hal) _ _ hex,hC.lo_le,rfl,heap_alloc_new _ _⟩
set_option maxRecDepth 100000 in
theorem bm (hlt:b < w.heap.size):DU Tryz.prog Dp a0 Hv (Iy b ns tm th td s g (max 1 n) lo w) (Ae b) (Hd b (max 1 n) lo w.heap.size tm th td a0) ⟨18,[0,1,2,3,4,5,6,7,8,9,10,11,12,13,14,15,16,17],[18],fun vs w=>∃ num den mode K,I1 (max 1 n) lo K w∧(num,den)∈Hz∧0≤mode∧mode≤6∧vs=[.agg #[D 19,D num,D den,D tm,D th,D td,.string ⟨#[]⟩,D 0,D mode,K]]⟩:=by
  refine ⟨fun vs u u' hC he ⟨p,q,m,K,⟨x,cs,B,k1,k2,k3,k4,k5⟩,k6⟩=>⟨p,q,m,K,⟨x,cs,B,k1,BX.keep (.of_but he (by have:=hC.lo_b; omega)) _ _ k2,k3,k4,Fm k5 (by have:=hC.lo_b; omega) he⟩,k6⟩,fun vals u hC hb=>?_⟩
  obtain ⟨_,_,_,_,_,_,_,⟨⟨p,q⟩,hpq,e7⟩,_,h9,_,⟨k,hk,e11⟩,_,_,_,_,_,⟨x,cs,B,hx,hex,hlo,e17,hB⟩,_⟩:=hb
  refine AH.known [(164,7,Jk p q),(166,9,.agg #[D tm,D th,D td]),(168,11,D k),(174,17,.slice (some ⟨B,0,none⟩) 1 1)] [] (by kernel_rfl) ⟨e7,(List.cons.inj h9).1,e11,e17,trivial⟩ trivial
    (AH.value (v:=.agg #[D 19,D p,D q,D tm,D th,D td,.string ⟨#[]⟩,D 0,D k,.slice (some ⟨B,0,none⟩) 1 1]) (w':=u) ⟨hC,.refl _ _,p,q,k,_,⟨x,cs,B,hx,hex,hlo,rfl,hB⟩,hpq,by omega,by omega,rfl⟩)
theorem LA (w:World) (g:Nat) (a0 d a2 a3 a4 a5 c b a a9:Value):w.setCells g 0 [a0,d,a2,a3,a4,a5,c,b,a,a9]=Fo w g a0 d a2 a3 a4 a5 c b a a9:=rfl
set_option maxRecDepth 100000 in
theorem mW (hlt:b < w.heap.size) (IH:Bv b ns n) (hty:(false,tm,th,td)∈BJ) (hn:h≤n) (hh:h≤100) (hl:-100≤h) (hr0:0≤rules) (hr1:rules≤10)
    (h0:a0.eval (.tmp 0)=ptr b 0) (h9:a0.eval (.tmp 9)=D h) (h3:a0.eval (.tmp 3)=D rules) (h5:a0.eval (.tmp 5)=ptr w.heap.size 0) :
    Io Tryz.prog Dp a0 Hv (Iy b ns tm th td s g (max 1 n) lo w) (Ae b) (Hd b (max 1 n) lo w.heap.size tm th td a0) (Hd b (max 1 n) lo w.heap.size tm th td a0):=
    ⟨Bg (Ae.refl b) (fun _ _ _ _=>by kernel_rfl),Bg (Ae.refl b) (fun _ _ _ _=>by kernel_rfl),Bg (Ae.refl b) (fun _ _ _ _=>by kernel_rfl),hD hlt,Bg (Ae.refl b) (fun _ _ _ _=>by kernel_rfl),g9 hlt h0,g8,g7,g0 h5,gz,
      Bg (Ae.refl b) (fun _ _ _ _=>by kernel_rfl),bv hlt h0,Bg (Ae.refl b) (fun _ _ _ _=>by kernel_rfl),bt h5,Bg (Ae.refl b) (fun _ _ _ _=>by kernel_rfl),Bg (Ae.refl b) (fun _ _ _ _=>by kernel_rfl),
      bq hlt IH hty hn hh hl hr0 hr1 h0 h9 h3,bo hlt,bm hlt,trivial⟩
set_option maxHeartbeats 400000 in
set_option maxRecDepth 100000 in
theorem ga (hlt:b < w.heap.size) (IH:Bv b ns n) (hty:(false,tm,th,td)∈BJ) (hn:h≤n) (hh:h≤100) (hl:-100≤h) (hr0:0≤rules) (hr1:rules≤10) (hs:a0.tmps.size=275)
    (h0:a0.eval (.tmp 0)=ptr b 0) (h9:a0.eval (.tmp 9)=D h) (h3:a0.eval (.tmp 3)=D rules) (h5:a0.eval (.tmp 5)=ptr w.heap.size 0) (h8:a0.eval (.tmp 8)=ptr (w.heap.size + 1) 0)
    {wk:World} (hA:Iy b ns tm th td s g (max 1 n) lo w wk) {Q:Exit→Act→World→Prop}
    (hQ:∀ a' u p q m K,a'.eval (.tmp 8)=ptr (w.heap.size + 1) 0→a'.defers=a0.defers→Iy b ns tm th td s g (max 1 n) lo w u→I1 (max 1 n) lo K u→(p,q)∈Hz→0≤m→m≤6→
      Q .normal a' (Fo u (w.heap.size + 1) (D 19) (D p) (D q) (D tm) (D th) (D td) (.string ⟨#[]⟩) (D 0) (D m) K)) :
    (Code.region 26 Dp true).wp Tryz.prog Q a0 wk:=by
  refine wp_region_any (by kernel_rfl) ?_
  have hsz:Dp.size=20:=by kernel_rfl
  rw [hsz]
  have hd:Iy b ns tm th td s g (max 1 n) lo w { wk with drawn:=wk.drawn + 1 }:=hA.below hlt (Below.refl _ _).drew
  refine IZ (fuel:=1) (L:=Hd b (max 1 n) lo w.heap.size tm th td a0) (W:=Hv) (C:=Iy b ns tm th td s g (max 1 n) lo w) (Ext:=Ae b) (wm b (max 1 n) lo w.heap.size tm th td a0 hs) hd (Ae.refl b) (fun _ _ _=>Ae.trans)
    (mW hlt IH hty hn hh hl hr0 hr1 h0 h9 h3 h5) ?_
  intro vals u hC _ hall
  obtain ⟨_,_,_,_,_,_,_,_,_,_,_,_,_,_,_,_,_,_,⟨p,q,m,K,hK,hpq,hm0,hm1,e18⟩,_⟩:=hall
  have r1:Region.ready .any Dp (((Hd b (max 1 n) lo w.heap.size tm th td a0).map (·.idx)).foldl (fun b i=>b.setIfInBounds i true) (Array.replicate 20 false))=[19]:=by kernel_rfl
  have r2:Region.ready .any Dp ((((Hd b (max 1 n) lo w.heap.size tm th td a0).map (·.idx)).foldl (fun b i=>b.setIfInBounds i true) (Array.replicate 20 false)).setIfInBounds 19 true)=[]:=by kernel_rfl
  have e8:(Ey Dp vals ((Hd b (max 1 n) lo w.heap.size tm th td a0).map (·.idx)) a0).eval (.tmp 8)=ptr (w.heap.size + 1) 0:=(JU 8 (by kernel_rfl)).trans h8
  have e175:(Ey Dp vals ((Hd b (max 1 n) lo w.heap.size tm th td a0).map (·.idx)) a0).eval (.tmp 175)=.agg #[D 19,D p,D q,D tm,D th,D td,.string ⟨#[]⟩,D 0,D m,K]:=
    (LL 175 18 (by kernel_rfl) (by rw [hs]; decide)).trans (List.cons.inj e18).1
  have ed:=(HM Dp vals ((Hd b (max 1 n) lo w.heap.size tm th td a0).map (·.idx)) a0).2
  generalize Ey Dp vals ((Hd b (max 1 n) lo w.heap.size tm th td a0).map (·.idx)) a0=aF at *
  generalize ((Hd b (max 1 n) lo w.heap.size tm th td a0).map (·.idx)).foldl (fun b i=>b.setIfInBounds i true) (Array.replicate 20 false)=lst at *
  have hop:(Dp.getD 19 default).op=.store 32 (.tmp 8) (.tmp 175):=by kernel_rfl
  have hdst:(Dp.getD 19 default).dst=none:=by kernel_rfl
  have hgu:(Dp.getD 19 default).guard=none:=by kernel_rfl
  have hat:Dp[19]?=some (Dp.getD 19 default):=by kernel_rfl
  generalize Dp.getD 19 default=o19 at *
  refine KM r1 hat hgu r2 ?_
  refine wp_store_mid 32 (.tmp 8) (.tmp 175) hop (w.heap.size + 1) 0 #[D 19,D p,D q,D tm,D th,D td,.string ⟨#[]⟩,D 0,D m,K] e8 e175 ?_ (by kernel_rfl) ?_ ?_
  · exact Ej hC.st.res 0 _ (by simp [JV])
  · obtain ⟨x,cs,B,_,_,_,rfl,_⟩:=hK
    simp [Value.oneCell']
  · rw [hdst]
    exact hQ _ u p q m K e8 ed hC hK hpq hm0 hm1
theorem VH {u:World} {p q m:Int} {K:Value} (t:1≤n) (v:b < w.heap.size) (e:(false,tm,th,td)∈BJ) (j:Iy b ns tm th td s g (max 1 n) lo w u) (y:I1 (max 1 n) lo K u) (f:(p,q)∈Hz) (i:0≤m) (h:m≤6) :
    Iv b ns (Dr (max 1 (n + 1))) w (.returned (.agg #[D 19,D p,D q,D tm,D th,D td,.string ⟨#[]⟩,D 0,D m,K])) (Fo u (w.heap.size + 1) (D 19) (D p) (D q) (D tm) (D th) (D td) (.string ⟨#[]⟩) (D 0) (D m) K):=by
  obtain ⟨x,cs,B,o,c,a,rfl,l⟩:=y
  have hl:=j.lo_b
  have k:Dx lo u (Fo u (w.heap.size + 1) (D 19) (D p) (D q) (D tm) (D th) (D td) (.string ⟨#[]⟩) (D 0) (D m) (.slice (some ⟨B,0,none⟩) 1 1)):=by
    unfold Fo
    have hg:w.heap.size + 1 < lo:=by omega
    exact ((((((((((show Dx lo u u from fun _ _ _=>rfl).setCell hg _).setCell hg _).setCell hg _).setCell hg _).setCell hg _).setCell hg _).setCell hg _).setCell hg _).setCell hg _).setCell hg _
  have hok:Hk 19 p q tm th td [] 0 m [x].length:=by
    have d:0≤p∧p≤100∧0≤q∧q≤100:=by
      simp only [Hz,List.mem_cons,List.not_mem_nil,or_false,Prod.mk.injEq] at f; omega
    have h2:-1≤tm∧tm≤1∧-1≤th∧th≤1∧-1≤td∧td≤1:=by
      simp only [BJ,Ds,Cc,Dj,Cd,BU,List.mem_cons,List.not_mem_nil,or_false,Prod.mk.injEq] at e; omega
    exact ⟨by omega,by omega,d.1,d.2.1,d.2.2.1,d.2.2.2,h2.1,h2.2.1,h2.2.2.1,h2.2.2.2.1,h2.2.2.2.2.1,h2.2.2.2.2.2,by simp,by omega,by omega,i,h,rfl⟩
  refine ⟨.mk 19 p q tm th td [] 0 m [x],_,(F7 hok (show FT (max 1 n) [x] from ⟨o,trivial⟩)).mono (by omega),?_,rfl,Ib j.st.tape (by omega) _ _ _ _ _ _ _ _ _ _,Jw j.st.but (by omega) _ _ _ _ _ _ _ _ _ _⟩
  refine BX.mono (show w.heap.size≤lo by omega) _ _ (BX.mk 19 p q tm th td [] 0 m (Bm.one (BX.keep k _ _ c)) (T:=32) (fr:=(0,0)) ?_ (fun r hr=>?_) a)
  · rw [k B a (Ak l),l]; simp
  · simp only [List.mem_cons,List.not_mem_nil,or_false] at hr; subst hr; exact BX.len c
theorem Vp {u:World} {g:Nat} (ht:u.there g 0 10) (a0 d a2 a3 a4 a5 c b a a9:Value):(Fo u g a0 d a2 a3 a4 a5 c b a a9).rangeAt g 0 [a0,d,a2,a3,a4,a5,c,b,a,a9]:=by
  rw [← LA]
  exact World.rangeAt_setCells_same u g 0 _ ht
theorem bR {u:World} {p q m:Int} {K:Value} {i:Act} (d:1≤n) (h:b < w.heap.size) (a:(false,tm,th,td)∈BJ) (o:i.eval (.tmp 8)=ptr (w.heap.size + 1) 0) (l:i.defers=[]) (j:Iy b ns tm th td s g (max 1 n) lo w u) (k:I1 (max 1 n) lo K u) (c:(p,q)∈Hz) (f:0≤m) (e:m≤6) :
    bodyPost Tryz.prog Tryz.f36 (Iv b ns (Dr (max 1 (n + 1))) w) .ret i (Fo u (w.heap.size + 1) (D 19) (D p) (D q) (D tm) (D th) (D td) (.string ⟨#[]⟩) (D 0) (D m) K):=
  bodyPost_ret (Ma (ty:=32) (by kernel_rfl) o [D 19,D p,D q,D tm,D th,D td,.string ⟨#[]⟩,D 0,D m,K] (Vp (Ej j.st.res 0 10 (by simp [JV])) _ _ _ _ _ _ _ _ _ _) (by kernel_rfl) (by kernel_rfl)) l (VH d h a j k c f e)
end
end Go.Proofs.YtmcpjkcggfmcmaaGreatDoor

/-
  Part 41 of a proof: contracts of functions.
-/
import Derived.Test.YtmcpjkcggfmcmaaGreatDoorD40
set_option linter.all false
namespace Go.Proofs.YtmcpjkcggfmcmaaGreatDoor
open Go.RowKit
theorem BX.cells {lo:Nat} {w:World} {x:Ex} {cs:List Value} (h:BX lo w x cs):∃ (a0 g a2 a3 a4 a5:Int) (f:List UInt8) (e d:Int) (A:Option Addr) (n c:Nat),cs=[D a0,D g,D a2,D a3,D a4,D a5,.string ⟨f.toArray⟩,D e,D d,.slice A n c]:=by
 obtain ⟨op,num,den,mu,hu,du,name,a,mode,b⟩:=x
 unfold BX at h
 obtain ⟨A,c,ks,rfl,_⟩:=h
 exact ⟨_,_,_,_,_,_,_,_,_,_,_,_,rfl⟩
theorem Da {w:World} {g:Nat} {a0 a a2 a3:Value} {T:TypeId} (h:w.heap[g]?=some (.cells #[a0,a,a2,a3] T (0,0))):w.cell? ⟨g,0,none⟩=some a0∧w.cell? ⟨g,1,none⟩=some a∧w.cell? ⟨g,2,none⟩=some a2∧w.cell? ⟨g,3,none⟩=some a3:=
 ⟨Lib.cell_of_heap h 0,Lib.cell_of_heap h 1,Lib.cell_of_heap h 2,Lib.cell_of_heap h 3⟩
def Ei (s:Bool×Int×Int×Int):List Value:=[.bool s.1,D s.2.1,D s.2.2.1,D s.2.2.2]
def El:List (Bool×Int×Int×Int):=[BU,Cc,Dj,Cd]
theorem Pm (w:World) (k:Nat) (a:k < 4):∃ s,s∈BJ∧(w.alloc (.cells (El.flatMap Ei).toArray 26)).cell? ⟨w.heap.size,k * 4,none⟩=some (.bool s.1)∧(w.alloc (.cells (El.flatMap Ei).toArray 26)).cell? ⟨w.heap.size,k * 4 + 1,none⟩=some (D s.2.1)∧
  (w.alloc (.cells (El.flatMap Ei).toArray 26)).cell? ⟨w.heap.size,k * 4 + 2,none⟩=some (D s.2.2.1)∧(w.alloc (.cells (El.flatMap Ei).toArray 26)).cell? ⟨w.heap.size,k * 4 + 3,none⟩=some (D s.2.2.2):=by
 simp only [Lib.cell_of_heap (heap_alloc_new w _),List.getElem?_toArray]
 have:k=0∨k=1∨k=2∨k=3:=by omega
 rcases this with rfl | rfl | rfl | rfl
 ·exact ⟨BU,by simp [BJ],rfl,rfl,rfl,rfl⟩
 ·exact ⟨Cc,by simp [BJ],rfl,rfl,rfl,rfl⟩
 ·exact ⟨Dj,by simp [BJ],rfl,rfl,rfl,rfl⟩
 ·exact ⟨Cd,by simp [BJ],rfl,rfl,rfl,rfl⟩
theorem Q7:(true,(0:Int),(0:Int),(0:Int))∈BJ:=by simp [BJ,Ds]
theorem Lu:(false,(0:Int),(0:Int),(0:Int))∈BJ:=by simp [BJ,BU]
theorem Ml:(false,(1:Int),(0:Int),(0:Int))∈BJ:=by simp [BJ,Cc]
theorem Q8:(false,(0:Int),(1:Int),(0:Int))∈BJ:=by simp [BJ,Dj]
theorem UG:(false,(1:Int),(-1:Int),(0:Int))∈BJ:=by simp [BJ,Cd]
theorem cK {lo:Nat} {w w':World} (h:Dx lo w w') {g:Nat} (hg:g < lo) (a0 d a2 a3 a4 a5 c b a a9:Value):Dx lo w (Fo w' g a0 d a2 a3 a4 a5 c b a a9):=by
 unfold Fo
 exact (((((((((h.setCell hg _).setCell hg _).setCell hg _).setCell hg _).setCell hg _).setCell hg _).setCell hg _).setCell hg _).setCell hg _).setCell hg _
theorem rH (w:World) (g:Nat) (a0 d a2 a3 a4 a5 c b a a9:Value):(Fo w g a0 d a2 a3 a4 a5 c b a a9).heap.size=w.heap.size:=by unfold Fo; simp
theorem GI {op:Int} {n:Nat} (a:1≤op) (h2:op≤21) (h:n=QF op):Hk op 0 0 0 0 0 [] 0 0 n:=⟨a,h2,by omega,by omega,by omega,by omega,by omega,by omega,by omega,by omega,by omega,by omega,by simp,by omega,by omega,by omega,by omega,h⟩
theorem UA {op:Int} {n:Nat} {name:List UInt8} (b:1≤op) (h2:op≤21) (a:name.length≤5) (h:n=QF op):Hk op 0 0 0 0 0 name 0 0 n:=⟨b,h2,by omega,by omega,by omega,by omega,by omega,by omega,by omega,by omega,by omega,by omega,a,by omega,by omega,by omega,by omega,h⟩
theorem Jb.close {b:Nat} {ns:List Int} {t s:Bool×Int×Int×Int} {g m lo:Nat} {w c:World} {es:List Ex} {ks:List (List Value)} (h:Jb b ns t s g m lo w es ks c) (l:b < w.heap.size)
  {op num den mu hu du:Int} {name:List UInt8} {a mode:Int} (ok:Hk op num den mu hu du name a mode es.length) (a0 i a2 a3 a4 a5 f e d a9:Value) {C:Array Value} (q:C=ks.flatten.toArray) {N:Nat} (p:N=es.length) {j:Nat} (hm:m + 1≤j) :
  Iv b ns (Dr j) w (.returned (.agg #[D op,D num,D den,D mu,D hu,D du,.string ⟨name.toArray⟩,D a,D mode,.slice (Option.some ⟨c.heap.size,0,none⟩) N N]))
   ((Fo c (w.heap.size + 1) a0 i a2 a3 a4 a5 f e d a9).alloc (.cells C 32)):=by
 have hz:=rH c (w.heap.size + 1) a0 i a2 a3 a4 a5 f e d a9
 have n:=h.lo_b
 have o:Dx lo c ((Fo c (w.heap.size + 1) a0 i a2 a3 a4 a5 f e d a9).alloc (.cells C 32)):=by
  intro k r h2
  rw [Below.heap_alloc _ _ _ (by omega)]
  exact cK (fun _ _ _=>rfl) (by omega) _ _ _ _ _ _ _ _ _ _ k r h2
 subst q p
 refine ⟨.mk op num den mu hu du name a mode es,_,(F7 ok h.gen).mono hm,BX.mono (show w.heap.size≤lo by omega) _ _ (BX.mk op num den mu hu du name a mode (Bm.keep o _ _ h.exs) (KN hz.symm) h.len h.lo_le),rfl,?_,?_⟩
 ·exact (Ib h.st.tape (by omega) _ _ _ _ _ _ _ _ _ _).alloc _
 ·exact (Jw h.st.but (by omega) _ _ _ _ _ _ _ _ _ _).alloc _
theorem Fj {b lo:Nat} {ns:List Int} {P:Ex→Prop} {w a:World} {x:Ex} {cs:List Value} (d:BX lo a x cs) (c:w.heap.size + 1 < lo) (e:P x) (g:Bl b ns a) (hb:Ae b w a) (f:b < w.heap.size) (a0 k a2 a3 a4 a5 j i h a9:Value) :
  Iv b ns P w (.returned (.agg cs.toArray)) (Fo a (w.heap.size + 1) a0 k a2 a3 a4 a5 j i h a9):=
 ⟨x,cs,e,BX.mono (by omega) _ _ (BX.keep (cK (fun _ _ _=>rfl) c _ _ _ _ _ _ _ _ _ _) _ _ d),rfl,Ib g (by omega) _ _ _ _ _ _ _ _ _ _,Jw hb (by omega) _ _ _ _ _ _ _ _ _ _⟩
theorem Jb.both {b:Nat} {ns:List Int} {t s:Bool×Int×Int×Int} {g m lo:Nat} {w a:World} {x y:Ex} {cx i:List Value} (h:Jb b ns t s g m lo w [x,y] [cx,i] a):BX lo a x cx∧BX lo a y i:=by
 have:=h.exs
 unfold Bm Bm Bm at this
 obtain ⟨c,cs,f,h2,d,ds,e,j,k⟩:=this
 simp at f; obtain ⟨rfl,rfl⟩:=f
 simp at e; obtain ⟨rfl,rfl⟩:=e
 exact ⟨h2,j⟩
theorem bf {w:World} {o:Obj} {p:Addr} {v:Value} (h:w.cell? p=some v):(w.alloc o).cell? p=some v:=by
 rw [World.cell?_alloc_lt _ _ _ (World.block_lt_of_cell? w _ h)]; exact h
theorem C2 {w:World} {o:Obj} {p:Addr} {v:Value} (h:w.drew.cell? p=some v):(w.alloc o).drew.cell? p=some v:=bf (w:=w.drew) (o:=o) h
theorem gg (xs:List Int) (w:World):∀ (i:Nat) (x:Int),xs[i]?=some x→(w.alloc (.cells (xs.map (Value.int .i64)).toArray 3)).cell? ⟨w.heap.size,i,none⟩=some (D x):=by
 intro i x hi
 rw [Lib.cell_of_heap (heap_alloc_new w _),List.getElem?_toArray,List.getElem?_map,hi]; rfl
theorem Ae.of_drew {b:Nat} {w w':World} (h:Ae b w w'):Ae b w.drew w':=⟨h.os,h.tape,h.output,h.size,h.block⟩
theorem ln (b:Nat) (ns:List Int) (p q r:Int) (w:World) (a:Bl b ns w):Calls Tryz.prog 38 #[.pointer (some ⟨b,0,none⟩),.slice (some ⟨w.heap.size,0,none⟩) 3 3] (w.alloc (.cells #[D p,D q,D r] 3)).drew (VB b ns [p,q,r] w):=by
 refine (I5 b w.heap.size 3 ns [p,q,r] (w.drew.alloc (.cells #[D p,D q,D r] 3)) ((a.below (Below.refl _ _).drew).alloc _) (Nat.ne_of_gt a.lt) (by simp) (by simp) (gg [p,q,r] w.drew)).mono ?_
 rintro e w' ⟨x,c,rfl,d,h2⟩
 exact ⟨x,c,rfl,d,((Ae.refl b w).drew.alloc _).trans h2⟩
end Go.Proofs.YtmcpjkcggfmcmaaGreatDoor
namespace Go.Proofs.YtmcpjkcggfmcmaaGreatDoor
open Go.RowKit
set_option maxHeartbeats 8000000 in
set_option maxRecDepth 100000 in
theorem cT (b:Nat) (ns:List Int) (n:Nat) (IH0:1≤n→Bv b ns n) (tb:Bool) (hbb:tb=true) (tm th td h rules:Int) (w:World) (hT:Bl b ns w) (ht:(tb,tm,th,td)∈BJ) (hh:h≤(n + 1:Nat)) (hhm:h≤100) (hh0:-100≤h) (hr0:0≤rules) (hr1:rules≤10) :
    Calls Tryz.prog 36 #[.pointer (some ⟨b,0,none⟩),.agg #[.bool tb,D tm,D th,D td],D h,D rules] w (Iv b ns (Dr (max 1 (n + 1))) w):=by
  have HB:=Lib.hid hbb
  clear hbb
  have HT:=Lib.hid hT
  have hlt:=hT.lt
  have HTy:=Lib.hid ht
  have IHx:=Lib.hid IH0
  clear hT ht IH0
  go_enter Tryz.func36,Tryz.ntmps36
  go_upto_region 1 with fail
  have st0:FE b ns (tb,tm,th,td) w ((w.alloc (.cells #[.bool tb,D tm,D th,D td] 26)).alloc (.cells #[D 0,D 0,D 0,D 0,D 0,D 0,.string ⟨#[]⟩,D 0,D 0,.slice none 0 0] 32)):=
    ⟨(Below.heap_alloc _ _ _ (by simp)).trans (heap_alloc_new w _),KN (by simp),(HT.out.alloc _).alloc _,((Ae.refl _ _).alloc _).alloc _⟩
  generalize (w.alloc (.cells #[.bool tb,D tm,D th,D td] 26)).alloc (.cells #[D 0,D 0,D 0,D 0,D 0,D 0,.string ⟨#[]⟩,D 0,D 0,.slice none 0 0] 32)=w0 at *
  have ST0:=Lib.hid st0
  clear st0 HT
  go_cut [17] (fun s wx=>∃ c:Bool,s=.bool c∧Hid (c=false→1 < h)∧Hid (FE b ns (tb,tm,th,td) w wx))
  case first=>
    by_cases h1:h≤1
    · go_wp2_with fail
      go_meet
      case rel=>exact ⟨true,rfl,fun h=>(by cases h),ST0⟩
    · have hd:decide (h≤1)=false:=decide_eq_false h1
      go_wp2_with fail
      refine (CE b ns 5 _ ST0.out.tape (by omega) (by omega)).mono ?_
      rintro e w2 ⟨k,hk,rfl,hT2,hb2⟩
      have ST2:=Lib.hid (ST0.out.next hlt hT2 hb2)
      clear hT2
      go_wp2_with fail
      go_meet
      case rel=>exact ⟨_,rfl,fun _=>by omega,ST2⟩
  case rest=>
    obtain ⟨c,rfl,hc,ST1⟩:=hcut
    obtain ⟨w1,rfl⟩:∃ w1,w1=wc:=⟨_,rfl⟩
    cases c
    · have hh1:=hc.out rfl
      have IH:=Lib.hid (IHx.out (by omega))
      clear hc ST0 IHx
      go_wp2_with fail
      refine (F5 _).mono ?_
      rintro e w2 ⟨rfl,hb2⟩
      have ST2:=Lib.hid (ST1.out.below hlt hb2)
      clear hb2
      unfold DA BU
      go_wp2_with fail
      refine (EO _).mono ?_
      rintro e w3 ⟨rfl,hb3⟩
      have ST3:=Lib.hid (ST2.out.below hlt hb3)
      clear hb3
      unfold DA Cc
      go_wp2_with fail
      refine (Gf _).mono ?_
      rintro e w4 ⟨rfl,hb4⟩
      have ST4:=Lib.hid (ST3.out.below hlt hb4)
      clear hb4
      unfold DA Dj
      go_wp2_with fail
      refine (Fx _).mono ?_
      rintro e w5 ⟨rfl,hb5⟩
      have ST5:=Lib.hid (ST4.out.below hlt hb5)
      clear hb5 ST1 ST2 ST3 ST4
      unfold DA Cd
      go_wp2_with fail
      change Calls _ _ _ (w5.alloc (.cells (El.flatMap Ei).toArray 26)) _
      have HC:=Lib.hid (Pm w5)
      have ST6:=Lib.hid (ST5.out.below hlt ((Below.refl _ _).alloc (Nat.le_refl _) (.cells (El.flatMap Ei).toArray 26)))
      have hz6:w5.heap.size < (w5.alloc (.cells (El.flatMap Ei).toArray 26)).heap.size:=by simp
      have hb5:=ST5.out.tape.lt
      generalize w5.alloc (.cells (El.flatMap Ei).toArray 26)=w6 at *
      refine (CE b ns 4 w6 ST6.out.tape (by omega) (by omega)).mono ?_
      rintro e w7 ⟨k,hk,rfl,hT7,hb7⟩
      obtain ⟨⟨sb,sm,sh,sd⟩,hs,d0,d1,d2,d3⟩:=HC.out k (by omega)
      have q0:w7.cell? ⟨w5.heap.size,k * 4,none⟩=some (.bool sb):=by rw [hb7.cell hz6 (by simp; omega)]; exact d0
      have q1:w7.cell? ⟨w5.heap.size,k * 4 + 1,none⟩=some (D sm):=by rw [hb7.cell hz6 (by simp; omega)]; exact d1
      have q2:w7.cell? ⟨w5.heap.size,k * 4 + 2,none⟩=some (D sh):=by rw [hb7.cell hz6 (by simp; omega)]; exact d2
      have q3:w7.cell? ⟨w5.heap.size,k * 4 + 3,none⟩=some (D sd):=by rw [hb7.cell hz6 (by simp; omega)]; exact d3
      have ST7:=Lib.hid (ST6.out.next hlt hT7 hb7)
      have hk4:k < 4:=by omega
      have hne:w7.heap.size≠w.heap.size + 1:=by have:=Ak ST7.out.res; omega
      have HSy:=Lib.hid hs
      clear hT7 hb7 HC ST5 ST6 hz6 hb5 d0 d1 d2 d3 hs hk
      go_upto_region 5 with fail
      have acc0:Jb b ns (tb,tm,th,td) (sb,sm,sh,sd) w7.heap.size (max 1 n) (w7.heap.size + 1) w [] [] (w7.alloc (.cells #[.bool sb,D sm,D sh,D sd] 26)):=
        ⟨by unfold Bm; rfl,trivial,fun r hr=>(by cases hr),ST7.out.below hlt ((Below.refl _ _).alloc (Nat.le_refl _) _),heap_alloc_new _ _,by simp,by have:=Ak ST7.out.res; omega,⟨by omega,by have:=ST7.out.tape.lt; omega⟩⟩
      generalize w7.alloc (.cells #[.bool sb,D sm,D sh,D sd] 26)=w8 at *
      have HA0:=Lib.hid acc0
      clear acc0 q0 q1 q2 q3
      go_wp2_with fail
      refine (CE b ns 6 w8 HA0.out.st.tape (by omega) (by omega)).mono ?_
      rintro e w9 ⟨k6,hk6,rfl,hT9,hb9⟩
      have HA:=Lib.hid (HA0.out.step hlt hT9 hb9)
      clear hT9 hb9 HA0
      by_cases h5:k6=5
      · subst h5
        replace HA:=Lib.hid (HA.out.below hlt (Below.refl w9.heap.size w9).drew)
        obtain ⟨y0,y1,y2,y3⟩:=Da HA.out.st.ty
        simp only at y0 y1 y2 y3
        go_wp2_with fail
        go_region_held3 (fun w'=>w'.cell? ⟨w.heap.size,0,none⟩=some (.bool tb)∧w'.cell? ⟨w.heap.size,1,none⟩=some (D tm)∧w'.cell? ⟨w.heap.size,2,none⟩=some (D th)∧w'.cell? ⟨w.heap.size,3,none⟩=some (D td)) (go_keep)
          (first | (go_at_call 30; refine (Gb _).mono ?_; rintro e wA ⟨rfl,hbA⟩; replace HA:=Lib.hid (HA.out.below hlt hbA); clear hbA; obtain ⟨y0,y1,y2,y3⟩:=Da HA.out.st.ty; simp only at y0 y1 y2 y3; obtain ⟨r0,r1,r2,r3,r4,r5,r6,r7,r8,r9,f0,f1,f2,f3,f4,f5,f6,f7,f8,f9⟩:=Cr HA.out.st.res; have hz:=Ak HA.out.st.res; unfold DA Ds)
                 | (go_at_call 36; refine (IH.out _ _ _ _ _ _ _ HA.out.st.tape (by first | exact HTy.out | exact Q7) (by omega) (by omega) (by omega) (by omega) (by omega)).mono ?_; rintro e wA ⟨x,cs,hx,hex,rfl,hTA,hbA⟩; replace HA:=Lib.hid (HA.out.push hlt hx hex hTA hbA); obtain ⟨_,_,_,_,_,_,_,_,_,_,_,_,rfl⟩:=hex.cells; clear hx hex hTA hbA; obtain ⟨y0,y1,y2,y3⟩:=Da HA.out.st.ty; simp only at y0 y1 y2 y3; obtain ⟨r0,r1,r2,r3,r4,r5,r6,r7,r8,r9,f0,f1,f2,f3,f4,f5,f6,f7,f8,f9⟩:=Cr HA.out.st.res; have hz:=Ak HA.out.st.res))
        go_wp2_with fail
        refine bodyPost_ret (v:=.agg #[D 18,D 0,D 0,D 0,D 0,D 0,.string ⟨#[]⟩,D 0,D 0,.slice (some ⟨wA.heap.size,0,none⟩) 3 3]) (by simp [results,Tryz.results36,go_sem,hz,r0,r1,r2,r3,r4,r5,r6,r7,r8,r9]) rfl ?_
        exact HA.out.close hlt (GI (op:=18) (by decide) (by decide) rfl) _ _ _ _ _ _ _ _ _ _ rfl rfl (by omega)
      · have g5:((k6:Int) == 5)=false:=by simp; omega
        obtain ⟨y0,y1,y2,y3⟩:=Da HA.out.st.ty
        simp only at y0 y1 y2 y3
        cases tb
        · exact absurd HB.out (by simp)
        · go_wp2_with fail
          refine (CE b ns 6 _ HA.out.st.tape (by omega) (by omega)).mono ?_
          rintro e wk ⟨k7,hk7,rfl,hT,hb⟩
          replace HA:=Lib.hid (HA.out.step hlt hT hb)
          clear hT hb
          clear y0 y1 y2 y3
          have hk7c:k7=0∨k7=1∨k7=2∨k7=3∨k7=4∨k7=5:=by omega
          rcases hk7c with rfl | rfl | rfl | rfl | rfl | rfl
          · skip
            have HK:=Lib.hid HA.out.st.tape
            replace HA:=Lib.hid (HA.out.below hlt (Below.refl wk.heap.size wk).drew)
            obtain ⟨y0,y1,y2,y3⟩:=Da HA.out.some; simp only at y0 y1 y2 y3; obtain ⟨r0,r1,r2,r3,r4,r5,r6,r7,r8,r9,f0,f1,f2,f3,f4,f5,f6,f7,f8,f9⟩:=Cr HA.out.st.res; have hz:=Ak HA.out.st.res; have hyz:=Ak HA.out.some
            go_wp2_with fail
            go_region_held3 (fun w'=>w'.cell? ⟨w7.heap.size,0,none⟩=some (.bool sb)∧w'.cell? ⟨w7.heap.size,1,none⟩=some (D sm)∧w'.cell? ⟨w7.heap.size,2,none⟩=some (D sh)∧w'.cell? ⟨w7.heap.size,3,none⟩=some (D sd)) (first | (with_reducible exact ⟨y0,y1,y2,y3⟩) | (with_reducible exact ⟨C2 y0,C2 y1,C2 y2,C2 y3⟩) | (go_keep; done) | (simp [go_sem,y0,y1,y2,y3]; done))
              (first | (go_at_call 38; refine (ln b ns 9 10 11 _ HK.out).mono ?_; rintro e wA ⟨ox,hox,rfl,hTA,hbA⟩; replace HA:=Lib.hid (HA.out.step hlt hTA (Ae.of_drew hbA)); have HO:=Lib.hid hox; clear hox hTA hbA; obtain ⟨y0,y1,y2,y3⟩:=Da HA.out.some; simp only at y0 y1 y2 y3; obtain ⟨r0,r1,r2,r3,r4,r5,r6,r7,r8,r9,f0,f1,f2,f3,f4,f5,f6,f7,f8,f9⟩:=Cr HA.out.st.res; have hz:=Ak HA.out.st.res; have hyz:=Ak HA.out.some) | (go_at_call 36; refine (IH.out _ _ _ _ _ _ _ HA.out.st.tape (by exact HSy.out) (by omega) (by omega) (by omega) (by omega) (by omega)).mono ?_; rintro e wA ⟨x,cs,hx,hex,rfl,hTA,hbA⟩; replace HA:=Lib.hid (HA.out.push hlt hx hex hTA hbA); obtain ⟨_,_,_,_,_,_,_,_,_,_,_,_,rfl⟩:=hex.cells; clear hx hex hTA hbA; obtain ⟨y0,y1,y2,y3⟩:=Da HA.out.some; simp only at y0 y1 y2 y3; obtain ⟨r0,r1,r2,r3,r4,r5,r6,r7,r8,r9,f0,f1,f2,f3,f4,f5,f6,f7,f8,f9⟩:=Cr HA.out.st.res; have hz:=Ak HA.out.st.res; have hyz:=Ak HA.out.some) | (go_at_call 67; refine (Fv _ _ _ _ _ _ _ HA.out.lo_le HA.out.both.1 HA.out.both.2).mono ?_; rintro e wB ⟨cs,hex,rfl,hbB⟩; have HP:=Lib.hid hex; have HB:=Lib.hid (HA.out.below hlt hbB); have STz:=Lib.hid HB.out.st; obtain ⟨a0,a1,a2,a3,a4,a5,a6,a7,a8,A,nn,cc,rfl⟩:=hex.cells; clear hex hbB; obtain ⟨y0,y1,y2,y3⟩:=Da HB.out.some; simp only at y0 y1 y2 y3; obtain ⟨r0,r1,r2,r3,r4,r5,r6,r7,r8,r9,f0,f1,f2,f3,f4,f5,f6,f7,f8,f9⟩:=Cr HB.out.st.res; have hz:=Ak HB.out.st.res; have hyz:=Ak HB.out.some))
            have hlo:=HA.out.lo_b
            go_wp2_with fail
            refine bodyPost_ret (v:=.agg #[D a0,D a1,D a2,D a3,D a4,D a5,.string ⟨a6.toArray⟩,D a7,D a8,.slice A nn cc]) (by simp [results,Tryz.results36,go_sem,r0,r1,r2,r3,r4,r5,r6,r7,r8,r9]) rfl ?_
            have hox:=HO.out
            simp only [List.mem_cons,List.not_mem_nil,or_false] at hox
            exact Fj HP.out (by omega) ((F7 (GI (by omega) (by omega) (by rcases hox with rfl | rfl | rfl <;> rfl)) HA.out.gen).mono (by omega)) STz.out.tape STz.out.but hlt _ _ _ _ _ _ _ _ _ _
          · skip
            have HK:=Lib.hid HA.out.st.tape
            replace HA:=Lib.hid (HA.out.below hlt (Below.refl wk.heap.size wk).drew)
            obtain ⟨y0,y1,y2,y3⟩:=Da HA.out.some; simp only at y0 y1 y2 y3; obtain ⟨r0,r1,r2,r3,r4,r5,r6,r7,r8,r9,f0,f1,f2,f3,f4,f5,f6,f7,f8,f9⟩:=Cr HA.out.st.res; have hz:=Ak HA.out.st.res; have hyz:=Ak HA.out.some
            go_wp2_with fail
            go_region_held3 (fun w'=>w'.cell? ⟨w7.heap.size,0,none⟩=some (.bool sb)∧w'.cell? ⟨w7.heap.size,1,none⟩=some (D sm)∧w'.cell? ⟨w7.heap.size,2,none⟩=some (D sh)∧w'.cell? ⟨w7.heap.size,3,none⟩=some (D sd)) (first | (with_reducible exact ⟨y0,y1,y2,y3⟩) | (with_reducible exact ⟨C2 y0,C2 y1,C2 y2,C2 y3⟩) | (go_keep; done) | (simp [go_sem,y0,y1,y2,y3]; done))
              (first | (go_at_call 38; refine (ln b ns 9 10 11 _ HK.out).mono ?_; rintro e wA ⟨ox,hox,rfl,hTA,hbA⟩; replace HA:=Lib.hid (HA.out.step hlt hTA (Ae.of_drew hbA)); have HO:=Lib.hid hox; clear hox hTA hbA; obtain ⟨y0,y1,y2,y3⟩:=Da HA.out.some; simp only at y0 y1 y2 y3; obtain ⟨r0,r1,r2,r3,r4,r5,r6,r7,r8,r9,f0,f1,f2,f3,f4,f5,f6,f7,f8,f9⟩:=Cr HA.out.st.res; have hz:=Ak HA.out.st.res; have hyz:=Ak HA.out.some) | (go_at_call 36; refine (IH.out _ _ _ _ _ _ _ HA.out.st.tape (by exact HSy.out) (by omega) (by omega) (by omega) (by omega) (by omega)).mono ?_; rintro e wA ⟨x,cs,hx,hex,rfl,hTA,hbA⟩; replace HA:=Lib.hid (HA.out.push hlt hx hex hTA hbA); obtain ⟨_,_,_,_,_,_,_,_,_,_,_,_,rfl⟩:=hex.cells; clear hx hex hTA hbA; obtain ⟨y0,y1,y2,y3⟩:=Da HA.out.some; simp only at y0 y1 y2 y3; obtain ⟨r0,r1,r2,r3,r4,r5,r6,r7,r8,r9,f0,f1,f2,f3,f4,f5,f6,f7,f8,f9⟩:=Cr HA.out.st.res; have hz:=Ak HA.out.st.res; have hyz:=Ak HA.out.some) | (go_at_call 67; refine (Fv _ _ _ _ _ _ _ HA.out.lo_le HA.out.both.1 HA.out.both.2).mono ?_; rintro e wB ⟨cs,hex,rfl,hbB⟩; have HP:=Lib.hid hex; have HB:=Lib.hid (HA.out.below hlt hbB); have STz:=Lib.hid HB.out.st; obtain ⟨a0,a1,a2,a3,a4,a5,a6,a7,a8,A,nn,cc,rfl⟩:=hex.cells; clear hex hbB; obtain ⟨y0,y1,y2,y3⟩:=Da HB.out.some; simp only at y0 y1 y2 y3; obtain ⟨r0,r1,r2,r3,r4,r5,r6,r7,r8,r9,f0,f1,f2,f3,f4,f5,f6,f7,f8,f9⟩:=Cr HB.out.st.res; have hz:=Ak HB.out.st.res; have hyz:=Ak HB.out.some))
            have hlo:=HA.out.lo_b
            go_wp2_with fail
            refine bodyPost_ret (v:=.agg #[D a0,D a1,D a2,D a3,D a4,D a5,.string ⟨a6.toArray⟩,D a7,D a8,.slice A nn cc]) (by simp [results,Tryz.results36,go_sem,r0,r1,r2,r3,r4,r5,r6,r7,r8,r9]) rfl ?_
            have hox:=HO.out
            simp only [List.mem_cons,List.not_mem_nil,or_false] at hox
            exact Fj HP.out (by omega) ((F7 (GI (by omega) (by omega) (by rcases hox with rfl | rfl | rfl <;> rfl)) HA.out.gen).mono (by omega)) STz.out.tape STz.out.but hlt _ _ _ _ _ _ _ _ _ _
          · skip
            replace HA:=Lib.hid (HA.out.below hlt (Below.refl wk.heap.size wk).drew)
            obtain ⟨y0,y1,y2,y3⟩:=Da HA.out.st.ty; simp only at y0 y1 y2 y3; obtain ⟨r0,r1,r2,r3,r4,r5,r6,r7,r8,r9,f0,f1,f2,f3,f4,f5,f6,f7,f8,f9⟩:=Cr HA.out.st.res; have hz:=Ak HA.out.st.res; have hyz:=Ak HA.out.st.ty
            go_wp2_with fail
            go_region_held3 (fun w'=>w'.cell? ⟨w.heap.size,0,none⟩=some (.bool true)∧w'.cell? ⟨w.heap.size,1,none⟩=some (D tm)∧w'.cell? ⟨w.heap.size,2,none⟩=some (D th)∧w'.cell? ⟨w.heap.size,3,none⟩=some (D td)) (first | (with_reducible exact ⟨y0,y1,y2,y3⟩) | (with_reducible exact ⟨C2 y0,C2 y1,C2 y2,C2 y3⟩) | (go_keep; done) | (simp [go_sem,hne,y0,y1,y2,y3]; done))
              (first | (go_at_call 36; refine (IH.out _ _ _ _ _ _ _ HA.out.st.tape (by exact HTy.out) (by omega) (by omega) (by omega) (by omega) (by omega)).mono ?_; rintro e wA ⟨x,cs,hx,hex,rfl,hTA,hbA⟩; replace HA:=Lib.hid (HA.out.push hlt hx hex hTA hbA); obtain ⟨_,_,_,_,_,_,_,_,_,_,_,_,rfl⟩:=hex.cells; clear hx hex hTA hbA; obtain ⟨y0,y1,y2,y3⟩:=Da HA.out.st.ty; simp only at y0 y1 y2 y3; obtain ⟨r0,r1,r2,r3,r4,r5,r6,r7,r8,r9,f0,f1,f2,f3,f4,f5,f6,f7,f8,f9⟩:=Cr HA.out.st.res; have hz:=Ak HA.out.st.res; have hyz:=Ak HA.out.st.ty) | (go_at_call 67; refine (Fv _ _ _ _ _ _ _ HA.out.lo_le HA.out.both.1 HA.out.both.2).mono ?_; rintro e wB ⟨cs,hex,rfl,hbB⟩; have HP:=Lib.hid hex; have HB:=Lib.hid (HA.out.below hlt hbB); have STz:=Lib.hid HB.out.st; obtain ⟨a0,a1,a2,a3,a4,a5,a6,a7,a8,A,nn,cc,rfl⟩:=hex.cells; clear hex hbB; obtain ⟨y0,y1,y2,y3⟩:=Da HB.out.st.ty; simp only at y0 y1 y2 y3; obtain ⟨r0,r1,r2,r3,r4,r5,r6,r7,r8,r9,f0,f1,f2,f3,f4,f5,f6,f7,f8,f9⟩:=Cr HB.out.st.res; have hz:=Ak HB.out.st.res; have hyz:=Ak HB.out.st.ty))
            have hlo:=HA.out.lo_b
            go_wp2_with fail
            refine bodyPost_ret (v:=.agg #[D a0,D a1,D a2,D a3,D a4,D a5,.string ⟨a6.toArray⟩,D a7,D a8,.slice A nn cc]) (by simp [results,Tryz.results36,go_sem,r0,r1,r2,r3,r4,r5,r6,r7,r8,r9]) rfl ?_
            exact Fj HP.out (by omega) ((F7 (GI (op:=12) (by decide) (by decide) rfl) HA.out.gen).mono (by omega)) STz.out.tape STz.out.but hlt _ _ _ _ _ _ _ _ _ _
          · skip
            replace HA:=Lib.hid (HA.out.below hlt (Below.refl wk.heap.size wk).drew)
            obtain ⟨y0,y1,y2,y3⟩:=Da HA.out.st.ty; simp only at y0 y1 y2 y3; obtain ⟨r0,r1,r2,r3,r4,r5,r6,r7,r8,r9,f0,f1,f2,f3,f4,f5,f6,f7,f8,f9⟩:=Cr HA.out.st.res; have hz:=Ak HA.out.st.res; have hyz:=Ak HA.out.st.ty
            go_wp2_with fail
            go_region_held3 (fun w'=>w'.cell? ⟨w.heap.size,0,none⟩=some (.bool true)∧w'.cell? ⟨w.heap.size,1,none⟩=some (D tm)∧w'.cell? ⟨w.heap.size,2,none⟩=some (D th)∧w'.cell? ⟨w.heap.size,3,none⟩=some (D td)) (first | (with_reducible exact ⟨y0,y1,y2,y3⟩) | (with_reducible exact ⟨C2 y0,C2 y1,C2 y2,C2 y3⟩) | (go_keep; done) | (simp [go_sem,hne,y0,y1,y2,y3]; done))
              (first | (go_at_call 36; refine (IH.out _ _ _ _ _ _ _ HA.out.st.tape (by exact HTy.out) (by omega) (by omega) (by omega) (by omega) (by omega)).mono ?_; rintro e wA ⟨x,cs,hx,hex,rfl,hTA,hbA⟩; replace HA:=Lib.hid (HA.out.push hlt hx hex hTA hbA); obtain ⟨_,_,_,_,_,_,_,_,_,_,_,_,rfl⟩:=hex.cells; clear hx hex hTA hbA; obtain ⟨y0,y1,y2,y3⟩:=Da HA.out.st.ty; simp only at y0 y1 y2 y3; obtain ⟨r0,r1,r2,r3,r4,r5,r6,r7,r8,r9,f0,f1,f2,f3,f4,f5,f6,f7,f8,f9⟩:=Cr HA.out.st.res; have hz:=Ak HA.out.st.res; have hyz:=Ak HA.out.st.ty) | (go_at_call 67; refine (Fv _ _ _ _ _ _ _ HA.out.lo_le HA.out.both.1 HA.out.both.2).mono ?_; rintro e wB ⟨cs,hex,rfl,hbB⟩; have HP:=Lib.hid hex; have HB:=Lib.hid (HA.out.below hlt hbB); have STz:=Lib.hid HB.out.st; obtain ⟨a0,a1,a2,a3,a4,a5,a6,a7,a8,A,nn,cc,rfl⟩:=hex.cells; clear hex hbB; obtain ⟨y0,y1,y2,y3⟩:=Da HB.out.st.ty; simp only at y0 y1 y2 y3; obtain ⟨r0,r1,r2,r3,r4,r5,r6,r7,r8,r9,f0,f1,f2,f3,f4,f5,f6,f7,f8,f9⟩:=Cr HB.out.st.res; have hz:=Ak HB.out.st.res; have hyz:=Ak HB.out.st.ty))
            have hlo:=HA.out.lo_b
            go_wp2_with fail
            refine bodyPost_ret (v:=.agg #[D a0,D a1,D a2,D a3,D a4,D a5,.string ⟨a6.toArray⟩,D a7,D a8,.slice A nn cc]) (by simp [results,Tryz.results36,go_sem,r0,r1,r2,r3,r4,r5,r6,r7,r8,r9]) rfl ?_
            exact Fj HP.out (by omega) ((F7 (GI (op:=13) (by decide) (by decide) rfl) HA.out.gen).mono (by omega)) STz.out.tape STz.out.but hlt _ _ _ _ _ _ _ _ _ _
          · skip
            obtain ⟨y0,y1,y2,y3⟩:=Da HA.out.st.ty; simp only at y0 y1 y2 y3; obtain ⟨r0,r1,r2,r3,r4,r5,r6,r7,r8,r9,f0,f1,f2,f3,f4,f5,f6,f7,f8,f9⟩:=Cr HA.out.st.res; have hz:=Ak HA.out.st.res; have hyz:=Ak HA.out.st.ty
            go_wp2_with fail
            refine (IH.out _ _ _ _ _ _ _ HA.out.st.tape (by exact HTy.out) (by omega) (by omega) (by omega) (by omega) (by omega)).mono ?_
            rintro e wA ⟨x,cs,hx,hex,rfl,hTA,hbA⟩
            replace HA:=Lib.hid (HA.out.push hlt hx hex hTA hbA)
            obtain ⟨_,_,_,_,_,_,_,_,_,_,_,_,rfl⟩:=hex.cells
            clear hx hex hTA hbA
            obtain ⟨y0,y1,y2,y3⟩:=Da HA.out.st.ty; simp only at y0 y1 y2 y3; obtain ⟨r0,r1,r2,r3,r4,r5,r6,r7,r8,r9,f0,f1,f2,f3,f4,f5,f6,f7,f8,f9⟩:=Cr HA.out.st.res; have hz:=Ak HA.out.st.res; have hyz:=Ak HA.out.st.ty
            go_wp2_with fail
            refine bodyPost_ret (v:=.agg #[D 17,D 0,D 0,D 0,D 0,D 0,.string ⟨#[]⟩,D 0,D 0,.slice (some ⟨wA.heap.size,0,none⟩) 1 1]) (by simp [results,Tryz.results36,go_sem,hz,r0,r1,r2,r3,r4,r5,r6,r7,r8,r9]) rfl ?_
            exact HA.out.close hlt (GI (op:=17) (by decide) (by decide) rfl) _ _ _ _ _ _ _ _ _ _ rfl rfl (by omega)
          · skip
            replace HA:=Lib.hid (HA.out.below hlt (Below.refl wk.heap.size wk).drew)
            obtain ⟨y0,y1,y2,y3⟩:=Da HA.out.st.ty; simp only at y0 y1 y2 y3; obtain ⟨r0,r1,r2,r3,r4,r5,r6,r7,r8,r9,f0,f1,f2,f3,f4,f5,f6,f7,f8,f9⟩:=Cr HA.out.st.res; have hz:=Ak HA.out.st.res; have hyz:=Ak HA.out.st.ty
            go_wp2_with fail
            go_region_held3 (fun w'=>w'.cell? ⟨w.heap.size,0,none⟩=some (.bool true)∧w'.cell? ⟨w.heap.size,1,none⟩=some (D tm)∧w'.cell? ⟨w.heap.size,2,none⟩=some (D th)∧w'.cell? ⟨w.heap.size,3,none⟩=some (D td)) (first | (with_reducible exact ⟨y0,y1,y2,y3⟩) | (with_reducible exact ⟨C2 y0,C2 y1,C2 y2,C2 y3⟩) | (go_keep; done) | (simp [go_sem,hne,y0,y1,y2,y3]; done))
              (first | (go_at_call 36; refine (IH.out _ _ _ _ _ _ _ HA.out.st.tape (by exact HTy.out) (by omega) (by omega) (by omega) (by omega) (by omega)).mono ?_; rintro e wA ⟨x,cs,hx,hex,rfl,hTA,hbA⟩; replace HA:=Lib.hid (HA.out.push hlt hx hex hTA hbA); obtain ⟨_,_,_,_,_,_,_,_,_,_,_,_,rfl⟩:=hex.cells; clear hx hex hTA hbA; obtain ⟨y0,y1,y2,y3⟩:=Da HA.out.st.ty; simp only at y0 y1 y2 y3; obtain ⟨r0,r1,r2,r3,r4,r5,r6,r7,r8,r9,f0,f1,f2,f3,f4,f5,f6,f7,f8,f9⟩:=Cr HA.out.st.res; have hz:=Ak HA.out.st.res; have hyz:=Ak HA.out.st.ty) | (go_at_call 67; refine (Fv _ _ _ _ _ _ _ HA.out.lo_le HA.out.both.1 HA.out.both.2).mono ?_; rintro e wB ⟨cs,hex,rfl,hbB⟩; have HP:=Lib.hid hex; have HB:=Lib.hid (HA.out.below hlt hbB); have STz:=Lib.hid HB.out.st; obtain ⟨a0,a1,a2,a3,a4,a5,a6,a7,a8,A,nn,cc,rfl⟩:=hex.cells; clear hex hbB; obtain ⟨y0,y1,y2,y3⟩:=Da HB.out.st.ty; simp only at y0 y1 y2 y3; obtain ⟨r0,r1,r2,r3,r4,r5,r6,r7,r8,r9,f0,f1,f2,f3,f4,f5,f6,f7,f8,f9⟩:=Cr HB.out.st.res; have hz:=Ak HB.out.st.res; have hyz:=Ak HB.out.st.ty))
            have hlo:=HA.out.lo_b
            go_wp2_with fail
            refine bodyPost_ret (v:=.agg #[D a0,D a1,D a2,D a3,D a4,D a5,.string ⟨a6.toArray⟩,D a7,D a8,.slice A nn cc]) (by simp [results,Tryz.results36,go_sem,r0,r1,r2,r3,r4,r5,r6,r7,r8,r9]) rfl ?_
            exact Fj HP.out (by omega) ((F7 (GI (op:=11) (by decide) (by decide) rfl) HA.out.gen).mono (by omega)) STz.out.tape STz.out.but hlt _ _ _ _ _ _ _ _ _ _
    · clear hc ST0
      obtain ⟨y0,y1,y2,y3⟩:=Da ST1.out.ty
      simp only at y0 y1 y2 y3
      go_wp2_with fail
      refine (UI b ns (tb,tm,th,td) rules _ ST1.out.tape HTy.out hr0 hr1).mono ?_
      rintro e w2 ⟨x,cs,hx,hex,rfl,hT2,hb2⟩
      have ST2:=Lib.hid (ST1.out.next hlt hT2 hb2)
      have HE:=Lib.hid hex
      have HX:=Lib.hid hx
      obtain ⟨a0,a1,a2,a3,a4,a5,a6,a7,a8,A,nn,cc,rfl⟩:=hex.cells
      have hz:=Ak ST1.out.res
      clear hT2 hb2 hex hx
      obtain ⟨r0,r1,r2,r3,r4,r5,r6,r7,r8,r9,f0,f1,f2,f3,f4,f5,f6,f7,f8,f9⟩:=Cr ST2.out.res
      go_wp2_with fail
      refine bodyPost_ret (v:=.agg #[D a0,D a1,D a2,D a3,D a4,D a5,.string ⟨a6.toArray⟩,D a7,D a8,.slice A nn cc]) (by simp [results,Tryz.results36,go_sem,r0,r1,r2,r3,r4,r5,r6,r7,r8,r9]) rfl ?_
      exact Fj HE.out hz (HX.out.mono (by omega)) ST2.out.tape ST2.out.but hlt _ _ _ _ _ _ _ _ _ _
end Go.Proofs.YtmcpjkcggfmcmaaGreatDoor

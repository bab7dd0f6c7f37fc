/-
  Part 43 of a proof: contracts of functions.
-/
import Derived.Test.YtmcpjkcggfmcmaaGreatDoorD42
import Derived.Test.YtmcpjkcggfmcmaaGreatDoorD41
set_option linter.all false
namespace Go.Proofs.YtmcpjkcggfmcmaaGreatDoor
open Go.RowKit
set_option maxHeartbeats 8000000 in
set_option maxRecDepth 100000 in
theorem ZL (b:Nat) (ns:List Int) (n:Nat) (IH0:1≤n→Bv b ns n) (tb:Bool) (hbb:tb=false) (tm th td h rules:Int) (w:World) (hT:Bl b ns w) (ht:(tb,tm,th,td)∈BJ) (hh:h≤(n + 1:Nat)) (hhm:h≤100) (hh0:-100≤h) (hr0:0≤rules) (hr1:rules≤10) :
    Calls Tryz.prog 36 #[.pointer (some ⟨b,0,none⟩),.agg #[.bool tb,D tm,D th,D td],D h,D rules] w (Iv b ns (Dr (max 1 (n + 1))) w):=by
  have HB:=Lib.hid hbb
  clear hbb
  have HT:=Lib.hid hT
  have hlt:=hT.lt
  have HTy:=Lib.hid ht
  have IHx:=Lib.hid IH0
  clear hT ht IH0
  go_enter Tryz.func36,Tryz.ntmps36
  go_upto_region 1 with fail
  have st0:FE b ns (tb,tm,th,td) w ((w.alloc (.cells #[.bool tb,D tm,D th,D td] 26)).alloc (.cells #[D 0,D 0,D 0,D 0,D 0,D 0,.string ⟨#[]⟩,D 0,D 0,.slice none 0 0] 32)):=
    ⟨(Below.heap_alloc _ _ _ (by simp)).trans (heap_alloc_new w _),KN (by simp),(HT.out.alloc _).alloc _,((Ae.refl _ _).alloc _).alloc _⟩
  generalize (w.alloc (.cells #[.bool tb,D tm,D th,D td] 26)).alloc (.cells #[D 0,D 0,D 0,D 0,D 0,D 0,.string ⟨#[]⟩,D 0,D 0,.slice none 0 0] 32)=w0 at *
  have ST0:=Lib.hid st0
  clear st0 HT
  go_cut [17] (fun s wx=>∃ c:Bool,s=.bool c∧Hid (c=false→1 < h)∧Hid (FE b ns (tb,tm,th,td) w wx))
  case first=>
    by_cases h1:h≤1
    · go_wp2_with fail
      go_meet
      case rel=>exact ⟨true,rfl,fun h=>(by cases h),ST0⟩
    · have hd:decide (h≤1)=false:=decide_eq_false h1
      go_wp2_with fail
      refine (CE b ns 5 _ ST0.out.tape (by omega) (by omega)).mono ?_
      rintro e w2 ⟨k,hk,rfl,hT2,hb2⟩
      have ST2:=Lib.hid (ST0.out.next hlt hT2 hb2)
      clear hT2
      go_wp2_with fail
      go_meet
      case rel=>exact ⟨_,rfl,fun _=>by omega,ST2⟩
  case rest=>
    obtain ⟨c,rfl,hc,ST1⟩:=hcut
    obtain ⟨w1,rfl⟩:∃ w1,w1=wc:=⟨_,rfl⟩
    cases c
    · have hh1:=hc.out rfl
      have IH:=Lib.hid (IHx.out (by omega))
      clear hc ST0 IHx
      go_wp2_with fail
      refine (F5 _).mono ?_
      rintro e w2 ⟨rfl,hb2⟩
      have ST2:=Lib.hid (ST1.out.below hlt hb2)
      clear hb2
      unfold DA BU
      go_wp2_with fail
      refine (EO _).mono ?_
      rintro e w3 ⟨rfl,hb3⟩
      have ST3:=Lib.hid (ST2.out.below hlt hb3)
      clear hb3
      unfold DA Cc
      go_wp2_with fail
      refine (Gf _).mono ?_
      rintro e w4 ⟨rfl,hb4⟩
      have ST4:=Lib.hid (ST3.out.below hlt hb4)
      clear hb4
      unfold DA Dj
      go_wp2_with fail
      refine (Fx _).mono ?_
      rintro e w5 ⟨rfl,hb5⟩
      have ST5:=Lib.hid (ST4.out.below hlt hb5)
      clear hb5 ST1 ST2 ST3 ST4
      unfold DA Cd
      go_wp2_with fail
      change Calls _ _ _ (w5.alloc (.cells (El.flatMap Ei).toArray 26)) _
      have HC:=Lib.hid (Pm w5)
      have ST6:=Lib.hid (ST5.out.below hlt ((Below.refl _ _).alloc (Nat.le_refl _) (.cells (El.flatMap Ei).toArray 26)))
      have hz6:w5.heap.size < (w5.alloc (.cells (El.flatMap Ei).toArray 26)).heap.size:=by simp
      have hb5:=ST5.out.tape.lt
      generalize w5.alloc (.cells (El.flatMap Ei).toArray 26)=w6 at *
      refine (CE b ns 4 w6 ST6.out.tape (by omega) (by omega)).mono ?_
      rintro e w7 ⟨k,hk,rfl,hT7,hb7⟩
      obtain ⟨⟨sb,sm,sh,sd⟩,hs,d0,d1,d2,d3⟩:=HC.out k (by omega)
      have q0:w7.cell? ⟨w5.heap.size,k * 4,none⟩=some (.bool sb):=by rw [hb7.cell hz6 (by simp; omega)]; exact d0
      have q1:w7.cell? ⟨w5.heap.size,k * 4 + 1,none⟩=some (D sm):=by rw [hb7.cell hz6 (by simp; omega)]; exact d1
      have q2:w7.cell? ⟨w5.heap.size,k * 4 + 2,none⟩=some (D sh):=by rw [hb7.cell hz6 (by simp; omega)]; exact d2
      have q3:w7.cell? ⟨w5.heap.size,k * 4 + 3,none⟩=some (D sd):=by rw [hb7.cell hz6 (by simp; omega)]; exact d3
      have ST7:=Lib.hid (ST6.out.next hlt hT7 hb7)
      have hk4:k < 4:=by omega
      have hne:w7.heap.size≠w.heap.size + 1:=by have:=Ak ST7.out.res; omega
      have HSy:=Lib.hid hs
      clear hT7 hb7 HC ST5 ST6 hz6 hb5 d0 d1 d2 d3 hs hk
      go_upto_region 5 with fail
      have acc0:Jb b ns (tb,tm,th,td) (sb,sm,sh,sd) w7.heap.size (max 1 n) (w7.heap.size + 1) w [] [] (w7.alloc (.cells #[.bool sb,D sm,D sh,D sd] 26)):=
        ⟨by unfold Bm; rfl,trivial,fun r hr=>(by cases hr),ST7.out.below hlt ((Below.refl _ _).alloc (Nat.le_refl _) _),heap_alloc_new _ _,by simp,by have:=Ak ST7.out.res; omega,⟨by omega,by have:=ST7.out.tape.lt; omega⟩⟩
      generalize w7.alloc (.cells #[.bool sb,D sm,D sh,D sd] 26)=w8 at *
      have HA0:=Lib.hid acc0
      clear acc0 q0 q1 q2 q3
      go_wp2_with fail
      refine (CE b ns 6 w8 HA0.out.st.tape (by omega) (by omega)).mono ?_
      rintro e w9 ⟨k6,hk6,rfl,hT9,hb9⟩
      have HA:=Lib.hid (HA0.out.step hlt hT9 hb9)
      clear hT9 hb9 HA0
      by_cases h5:k6=5
      · subst h5
        replace HA:=Lib.hid (HA.out.below hlt (Below.refl w9.heap.size w9).drew)
        obtain ⟨y0,y1,y2,y3⟩:=Da HA.out.st.ty
        simp only at y0 y1 y2 y3
        go_wp2_with fail
        go_region_held3 (fun w'=>w'.cell? ⟨w.heap.size,0,none⟩=some (.bool tb)∧w'.cell? ⟨w.heap.size,1,none⟩=some (D tm)∧w'.cell? ⟨w.heap.size,2,none⟩=some (D th)∧w'.cell? ⟨w.heap.size,3,none⟩=some (D td)) (go_keep)
          (first | (go_at_call 30; refine (Gb _).mono ?_; rintro e wA ⟨rfl,hbA⟩; replace HA:=Lib.hid (HA.out.below hlt hbA); clear hbA; obtain ⟨y0,y1,y2,y3⟩:=Da HA.out.st.ty; simp only at y0 y1 y2 y3; obtain ⟨r0,r1,r2,r3,r4,r5,r6,r7,r8,r9,f0,f1,f2,f3,f4,f5,f6,f7,f8,f9⟩:=Cr HA.out.st.res; have hz:=Ak HA.out.st.res; unfold DA Ds)
                 | (go_at_call 36; refine (IH.out _ _ _ _ _ _ _ HA.out.st.tape (by first | exact HTy.out | exact Q7) (by omega) (by omega) (by omega) (by omega) (by omega)).mono ?_; rintro e wA ⟨x,cs,hx,hex,rfl,hTA,hbA⟩; replace HA:=Lib.hid (HA.out.push hlt hx hex hTA hbA); obtain ⟨_,_,_,_,_,_,_,_,_,_,_,_,rfl⟩:=hex.cells; clear hx hex hTA hbA; obtain ⟨y0,y1,y2,y3⟩:=Da HA.out.st.ty; simp only at y0 y1 y2 y3; obtain ⟨r0,r1,r2,r3,r4,r5,r6,r7,r8,r9,f0,f1,f2,f3,f4,f5,f6,f7,f8,f9⟩:=Cr HA.out.st.res; have hz:=Ak HA.out.st.res))
        go_wp2_with fail
        refine bodyPost_ret (v:=.agg #[D 18,D 0,D 0,D 0,D 0,D 0,.string ⟨#[]⟩,D 0,D 0,.slice (some ⟨wA.heap.size,0,none⟩) 3 3]) (by simp [results,Tryz.results36,go_sem,hz,r0,r1,r2,r3,r4,r5,r6,r7,r8,r9]) rfl ?_
        exact HA.out.close hlt (GI (op:=18) (by decide) (by decide) rfl) _ _ _ _ _ _ _ _ _ _ rfl rfl (by omega)
      · have g5:((k6:Int) == 5)=false:=by simp; omega
        obtain ⟨y0,y1,y2,y3⟩:=Da HA.out.st.ty
        simp only at y0 y1 y2 y3
        cases tb
        · go_wp2_with fail
          refine (CE b ns 8 _ HA.out.st.tape (by omega) (by omega)).mono ?_
          rintro e wk ⟨k8,hk8,rfl,hT,hb⟩
          replace HA:=Lib.hid (HA.out.step hlt hT hb)
          clear hT hb
          clear y0 y1 y2 y3
          have hk8c:k8=0∨k8=1∨k8=2∨k8=3∨k8=4∨k8=5∨6≤k8:=by omega
          rcases hk8c with rfl | rfl | rfl | rfl | rfl | rfl | hk8
          · skip
            go_upto_region 22 with fail
            refine T3 hlt IH.out HTy.out (by omega) (by omega) (by omega) hr0 hr1 rfl rfl rfl rfl rfl rfl HA.out ?_
            intro aF u x cs e8 ed hC hx hex
            have HC:=Lib.hid hC
            have HX:=Lib.hid hx
            have HE:=Lib.hid hex
            clear hC hx hex
            go_wp2_with fail
            exact Ky (by omega) hlt e8 ed HC.out HX.out HE.out
          · skip
            go_upto_region 22 with fail
            refine T3 hlt IH.out HTy.out (by omega) (by omega) (by omega) hr0 hr1 rfl rfl rfl rfl rfl rfl HA.out ?_
            intro aF u x cs e8 ed hC hx hex
            have HC:=Lib.hid hC
            have HX:=Lib.hid hx
            have HE:=Lib.hid hex
            clear hC hx hex
            go_wp2_with fail
            exact Ky (by omega) hlt e8 ed HC.out HX.out HE.out
          · skip
            go_upto_region 24 with fail
            refine gb hlt IH.out HTy.out (by omega) (by omega) (by omega) hr0 hr1 rfl rfl rfl rfl rfl rfl HA.out ?_
            intro aF u x cs e8 ed hC hx hex
            have HC:=Lib.hid hC
            have HX:=Lib.hid hx
            have HE:=Lib.hid hex
            clear hC hx hex
            go_wp2_with fail
            exact Ky (by omega) hlt e8 ed HC.out HX.out HE.out
          · skip
            go_upto_region 26 with fail
            refine ga hlt IH.out HTy.out (by omega) (by omega) (by omega) hr0 hr1 rfl rfl rfl rfl rfl rfl HA.out ?_
            intro aF u p q m K e8 ed hC hK hpq hm0 hm1
            have HC:=Lib.hid hC
            have HK:=Lib.hid hK
            have HPQ:=Lib.hid hpq
            clear hC hK hpq
            go_wp2_with fail
            exact bR (by omega) hlt HTy.out e8 ed HC.out HK.out HPQ.out hm0 hm1
          · skip
            obtain ⟨y0,y1,y2,y3⟩:=Da HA.out.st.ty; simp only at y0 y1 y2 y3; obtain ⟨r0,r1,r2,r3,r4,r5,r6,r7,r8,r9,f0,f1,f2,f3,f4,f5,f6,f7,f8,f9⟩:=Cr HA.out.st.res; have hz:=Ak HA.out.st.res; have hyz:=Ak HA.out.st.ty
            go_wp2_with fail
            refine (IH.out _ _ _ _ _ _ _ HA.out.st.tape (by exact HTy.out) (by omega) (by omega) (by omega) (by omega) (by omega)).mono ?_
            rintro e wA ⟨x,cs,hx,hex,rfl,hTA,hbA⟩
            replace HA:=Lib.hid (HA.out.push hlt hx hex hTA hbA)
            obtain ⟨_,_,_,_,_,_,_,_,_,_,_,_,rfl⟩:=hex.cells
            clear hx hex hTA hbA
            obtain ⟨y0,y1,y2,y3⟩:=Da HA.out.st.ty; simp only at y0 y1 y2 y3; obtain ⟨r0,r1,r2,r3,r4,r5,r6,r7,r8,r9,f0,f1,f2,f3,f4,f5,f6,f7,f8,f9⟩:=Cr HA.out.st.res; have hz:=Ak HA.out.st.res; have hyz:=Ak HA.out.st.ty
            go_wp2_with fail
            refine bodyPost_ret (v:=.agg #[D 16,D 0,D 0,D 0,D 0,D 0,.string ⟨#[]⟩,D 0,D 0,.slice (some ⟨wA.heap.size,0,none⟩) 1 1]) (by simp [results,Tryz.results36,go_sem,hz,r0,r1,r2,r3,r4,r5,r6,r7,r8,r9]) rfl ?_
            exact HA.out.close hlt (GI (op:=16) (by decide) (by decide) rfl) _ _ _ _ _ _ _ _ _ _ rfl rfl (by omega)
          · skip
            go_upto_region 30 with fail
            refine gZ hlt IH.out HTy.out (by omega) (by omega) (by omega) hr0 hr1 rfl rfl rfl rfl rfl rfl HA.out ?_
            intro aF u x cs e8 ed hC hx hex
            have HC:=Lib.hid hC
            have HX:=Lib.hid hx
            have HE:=Lib.hid hex
            clear hC hx hex
            go_wp2_with fail
            exact Ky (by omega) hlt e8 ed HC.out HX.out HE.out
          · skip
            have gk0:((k8:Int) == 0)=false:=by simp; omega
            have gk1:((k8:Int) == 1)=false:=by simp; omega
            have gk2:((k8:Int) == 2)=false:=by simp; omega
            have gk3:((k8:Int) == 3)=false:=by simp; omega
            have gk4:((k8:Int) == 4)=false:=by simp; omega
            have gk5:((k8:Int) == 5)=false:=by simp; omega
            have hty:=HTy.out
            simp only [BJ,Ds,Cc,Dj,Cd,BU,List.mem_cons,List.not_mem_nil,or_false,Prod.mk.injEq] at hty
            rcases hty with ⟨h9,_⟩ | ⟨-,rfl,rfl,rfl⟩ | ⟨-,rfl,rfl,rfl⟩ | ⟨-,rfl,rfl,rfl⟩ | ⟨-,rfl,rfl,rfl⟩
            · cases h9
            · skip
              obtain ⟨y0,y1,y2,y3⟩:=Da HA.out.st.ty
              simp only at y0 y1 y2 y3
              go_wp2_with fail
              refine (EO _).mono ?_
              rintro e wA ⟨rfl,hbA⟩
              replace HA:=Lib.hid (HA.out.below hlt hbA)
              clear hbA
              unfold DA Cc
              go_wp2_with fail
              refine (Gf _).mono ?_
              rintro e wA ⟨rfl,hbA⟩
              replace HA:=Lib.hid (HA.out.below hlt hbA)
              clear hbA
              unfold DA Dj
              go_wp2_with fail
              refine (IH.out _ _ _ _ _ _ _ HA.out.st.tape (by exact Q8) (by omega) (by omega) (by omega) (by omega) (by omega)).mono ?_
              rintro e wA ⟨x,cs,hx,hex,rfl,hTA,hbA⟩
              replace HA:=Lib.hid (HA.out.push hlt hx hex hTA hbA)
              obtain ⟨_,_,_,_,_,_,_,_,_,_,_,_,rfl⟩:=hex.cells
              clear hx hex hTA hbA
              go_wp2_with fail
              refine (Fx _).mono ?_
              rintro e wA ⟨rfl,hbA⟩
              replace HA:=Lib.hid (HA.out.below hlt hbA)
              clear hbA
              unfold DA Cd
              go_wp2_with fail
              refine (IH.out _ _ _ _ _ _ _ HA.out.st.tape (by exact UG) (by omega) (by omega) (by omega) (by omega) (by omega)).mono ?_
              rintro e wA ⟨x,cs,hx,hex,rfl,hTA,hbA⟩
              replace HA:=Lib.hid (HA.out.push hlt hx hex hTA hbA)
              obtain ⟨_,_,_,_,_,_,_,_,_,_,_,_,rfl⟩:=hex.cells
              clear hx hex hTA hbA
              go_wp2_with fail
              refine (Fv _ _ _ _ _ _ _ HA.out.lo_le HA.out.both.1 HA.out.both.2).mono ?_
              rintro e wB ⟨cs,hex,rfl,hbB⟩
              have HP:=Lib.hid hex
              have HB:=Lib.hid (HA.out.below hlt hbB)
              obtain ⟨a0,a1,a2,a3,a4,a5,a6,a7,a8,A,nn,cc,rfl⟩:=hex.cells
              clear hex hbB
              obtain ⟨r0,r1,r2,r3,r4,r5,r6,r7,r8,r9,f0,f1,f2,f3,f4,f5,f6,f7,f8,f9⟩:=Cr HB.out.st.res
              have hlo:=HA.out.lo_b
              go_wp2_with fail
              refine bodyPost_ret (v:=.agg #[D a0,D a1,D a2,D a3,D a4,D a5,.string ⟨a6.toArray⟩,D a7,D a8,.slice A nn cc]) (by simp [results,Tryz.results36,go_sem,r0,r1,r2,r3,r4,r5,r6,r7,r8,r9]) rfl ?_
              exact Fj HP.out (by omega) ((F7 (GI (op:=7) (by decide) (by decide) rfl) HA.out.gen).mono (by omega)) HB.out.st.tape HB.out.st.but hlt _ _ _ _ _ _ _ _ _ _
            · skip
              obtain ⟨y0,y1,y2,y3⟩:=Da HA.out.st.ty
              simp only at y0 y1 y2 y3
              go_wp2_with fail
              refine (EO _).mono ?_
              rintro e wA ⟨rfl,hbA⟩
              replace HA:=Lib.hid (HA.out.below hlt hbA)
              clear hbA
              unfold DA Cc
              go_wp2_with fail
              refine (Fx _).mono ?_
              rintro e wA ⟨rfl,hbA⟩
              replace HA:=Lib.hid (HA.out.below hlt hbA)
              clear hbA
              unfold DA Cd
              go_wp2_with fail
              refine (F5 _).mono ?_
              rintro e wA ⟨rfl,hbA⟩
              replace HA:=Lib.hid (HA.out.below hlt hbA)
              clear hbA
              unfold DA BU
              go_wp2_with fail
              refine (EO _).mono ?_
              rintro e wA ⟨rfl,hbA⟩
              replace HA:=Lib.hid (HA.out.below hlt hbA)
              clear hbA
              unfold DA Cc
              go_wp2_with fail
              refine (IH.out _ _ _ _ _ _ _ HA.out.st.tape (by exact Ml) (by omega) (by omega) (by omega) (by omega) (by omega)).mono ?_
              rintro e wA ⟨x,cs,hx,hex,rfl,hTA,hbA⟩
              replace HA:=Lib.hid (HA.out.push hlt hx hex hTA hbA)
              obtain ⟨_,_,_,_,_,_,_,_,_,_,_,_,rfl⟩:=hex.cells
              clear hx hex hTA hbA
              go_wp2_with fail
              refine (Fx _).mono ?_
              rintro e wA ⟨rfl,hbA⟩
              replace HA:=Lib.hid (HA.out.below hlt hbA)
              clear hbA
              unfold DA Cd
              go_wp2_with fail
              refine (IH.out _ _ _ _ _ _ _ HA.out.st.tape (by exact UG) (by omega) (by omega) (by omega) (by omega) (by omega)).mono ?_
              rintro e wA ⟨x,cs,hx,hex,rfl,hTA,hbA⟩
              replace HA:=Lib.hid (HA.out.push hlt hx hex hTA hbA)
              obtain ⟨_,_,_,_,_,_,_,_,_,_,_,_,rfl⟩:=hex.cells
              clear hx hex hTA hbA
              go_wp2_with fail
              refine (Fv _ _ _ _ _ _ _ HA.out.lo_le HA.out.both.1 HA.out.both.2).mono ?_
              rintro e wB ⟨cs,hex,rfl,hbB⟩
              have HP:=Lib.hid hex
              have HB:=Lib.hid (HA.out.below hlt hbB)
              obtain ⟨a0,a1,a2,a3,a4,a5,a6,a7,a8,A,nn,cc,rfl⟩:=hex.cells
              clear hex hbB
              obtain ⟨r0,r1,r2,r3,r4,r5,r6,r7,r8,r9,f0,f1,f2,f3,f4,f5,f6,f7,f8,f9⟩:=Cr HB.out.st.res
              have hlo:=HA.out.lo_b
              go_wp2_with fail
              refine bodyPost_ret (v:=.agg #[D a0,D a1,D a2,D a3,D a4,D a5,.string ⟨a6.toArray⟩,D a7,D a8,.slice A nn cc]) (by simp [results,Tryz.results36,go_sem,r0,r1,r2,r3,r4,r5,r6,r7,r8,r9]) rfl ?_
              exact Fj HP.out (by omega) ((F7 (GI (op:=8) (by decide) (by decide) rfl) HA.out.gen).mono (by omega)) HB.out.st.tape HB.out.st.but hlt _ _ _ _ _ _ _ _ _ _
            · skip
              obtain ⟨y0,y1,y2,y3⟩:=Da HA.out.st.ty
              simp only at y0 y1 y2 y3
              go_wp2_with fail
              refine (EO _).mono ?_
              rintro e wA ⟨rfl,hbA⟩
              replace HA:=Lib.hid (HA.out.below hlt hbA)
              clear hbA
              unfold DA Cc
              go_wp2_with fail
              refine (Fx _).mono ?_
              rintro e wA ⟨rfl,hbA⟩
              replace HA:=Lib.hid (HA.out.below hlt hbA)
              clear hbA
              unfold DA Cd
              go_wp2_with fail
              refine (CE b ns 2 _ HA.out.st.tape (by omega) (by omega)).mono ?_
              rintro e wl ⟨k2,hk2,rfl,hT,hb⟩
              replace HA:=Lib.hid (HA.out.step hlt hT hb)
              clear hT hb
              by_cases hk20:k2=0
              · subst hk20
                obtain ⟨y0,y1,y2,y3⟩:=Da HA.out.st.ty; simp only at y0 y1 y2 y3; obtain ⟨r0,r1,r2,r3,r4,r5,r6,r7,r8,r9,f0,f1,f2,f3,f4,f5,f6,f7,f8,f9⟩:=Cr HA.out.st.res; have hz:=Ak HA.out.st.res; have hyz:=Ak HA.out.st.ty
                go_wp2_with fail
                refine (F5 _).mono ?_
                rintro e wA ⟨rfl,hbA⟩
                replace HA:=Lib.hid (HA.out.below hlt hbA)
                clear hbA
                unfold DA BU
                go_wp2_with fail
                refine (IH.out _ _ _ _ _ _ _ HA.out.st.tape (by exact Lu) (by omega) (by omega) (by omega) (by omega) (by omega)).mono ?_
                rintro e wA ⟨x,cs,hx,hex,rfl,hTA,hbA⟩
                replace HA:=Lib.hid (HA.out.push hlt hx hex hTA hbA)
                obtain ⟨_,_,_,_,_,_,_,_,_,_,_,_,rfl⟩:=hex.cells
                clear hx hex hTA hbA
                obtain ⟨y0,y1,y2,y3⟩:=Da HA.out.st.ty; simp only at y0 y1 y2 y3; obtain ⟨r0,r1,r2,r3,r4,r5,r6,r7,r8,r9,f0,f1,f2,f3,f4,f5,f6,f7,f8,f9⟩:=Cr HA.out.st.res; have hz:=Ak HA.out.st.res; have hyz:=Ak HA.out.st.ty
                go_wp2_with fail
                refine bodyPost_ret (v:=.agg #[D 4,D 0,D 0,D 0,D 0,D 0,.string ⟨#[119]⟩,D 0,D 0,.slice (some ⟨wA.heap.size,0,none⟩) 1 1]) (by simp [results,Tryz.results36,go_sem,hz,r0,r1,r2,r3,r4,r5,r6,r7,r8,r9]) rfl ?_
                exact HA.out.close hlt (UA (op:=4) (name:=[119]) (by decide) (by decide) (by decide) rfl) _ _ _ _ _ _ _ _ _ _ rfl rfl (by omega)
              · have gk:((k2:Int) == 0)=false:=by simp; omega
                go_wp2_with fail
                refine (EO _).mono ?_
                rintro e wA ⟨rfl,hbA⟩
                replace HA:=Lib.hid (HA.out.below hlt hbA)
                clear hbA
                unfold DA Cc
                go_wp2_with fail
                refine (IH.out _ _ _ _ _ _ _ HA.out.st.tape (by exact Ml) (by omega) (by omega) (by omega) (by omega) (by omega)).mono ?_
                rintro e wA ⟨x,cs,hx,hex,rfl,hTA,hbA⟩
                replace HA:=Lib.hid (HA.out.push hlt hx hex hTA hbA)
                obtain ⟨_,_,_,_,_,_,_,_,_,_,_,_,rfl⟩:=hex.cells
                clear hx hex hTA hbA
                go_wp2_with fail
                refine (Gf _).mono ?_
                rintro e wA ⟨rfl,hbA⟩
                replace HA:=Lib.hid (HA.out.below hlt hbA)
                clear hbA
                unfold DA Dj
                go_wp2_with fail
                refine (IH.out _ _ _ _ _ _ _ HA.out.st.tape (by exact Q8) (by omega) (by omega) (by omega) (by omega) (by omega)).mono ?_
                rintro e wA ⟨x,cs,hx,hex,rfl,hTA,hbA⟩
                replace HA:=Lib.hid (HA.out.push hlt hx hex hTA hbA)
                obtain ⟨_,_,_,_,_,_,_,_,_,_,_,_,rfl⟩:=hex.cells
                clear hx hex hTA hbA
                go_wp2_with fail
                refine (Fv _ _ _ _ _ _ _ HA.out.lo_le HA.out.both.1 HA.out.both.2).mono ?_
                rintro e wB ⟨cs,hex,rfl,hbB⟩
                have HP:=Lib.hid hex
                have HB:=Lib.hid (HA.out.below hlt hbB)
                obtain ⟨a0,a1,a2,a3,a4,a5,a6,a7,a8,A,nn,cc,rfl⟩:=hex.cells
                clear hex hbB
                obtain ⟨r0,r1,r2,r3,r4,r5,r6,r7,r8,r9,f0,f1,f2,f3,f4,f5,f6,f7,f8,f9⟩:=Cr HB.out.st.res
                have hlo:=HA.out.lo_b
                go_wp2_with fail
                refine bodyPost_ret (v:=.agg #[D a0,D a1,D a2,D a3,D a4,D a5,.string ⟨a6.toArray⟩,D a7,D a8,.slice A nn cc]) (by simp [results,Tryz.results36,go_sem,r0,r1,r2,r3,r4,r5,r6,r7,r8,r9]) rfl ?_
                exact Fj HP.out (by omega) ((F7 (GI (op:=8) (by decide) (by decide) rfl) HA.out.gen).mono (by omega)) HB.out.st.tape HB.out.st.but hlt _ _ _ _ _ _ _ _ _ _
            · skip
              obtain ⟨y0,y1,y2,y3⟩:=Da HA.out.st.ty
              simp only at y0 y1 y2 y3
              go_wp2_with fail
              refine (EO _).mono ?_
              rintro e wA ⟨rfl,hbA⟩
              replace HA:=Lib.hid (HA.out.below hlt hbA)
              clear hbA
              unfold DA Cc
              go_wp2_with fail
              refine (Fx _).mono ?_
              rintro e wA ⟨rfl,hbA⟩
              replace HA:=Lib.hid (HA.out.below hlt hbA)
              clear hbA
              unfold DA Cd
              go_wp2_with fail
              refine (F5 _).mono ?_
              rintro e wA ⟨rfl,hbA⟩
              replace HA:=Lib.hid (HA.out.below hlt hbA)
              clear hbA
              unfold DA BU
              go_wp2_with fail
              refine (CE b ns 2 _ HA.out.st.tape (by omega) (by omega)).mono ?_
              rintro e wl ⟨k2,hk2,rfl,hT,hb⟩
              replace HA:=Lib.hid (HA.out.step hlt hT hb)
              clear hT hb
              by_cases hk20:k2=0
              · subst hk20
                obtain ⟨y0,y1,y2,y3⟩:=Da HA.out.st.ty; simp only at y0 y1 y2 y3; obtain ⟨r0,r1,r2,r3,r4,r5,r6,r7,r8,r9,f0,f1,f2,f3,f4,f5,f6,f7,f8,f9⟩:=Cr HA.out.st.res; have hz:=Ak HA.out.st.res; have hyz:=Ak HA.out.st.ty
                go_wp2_with fail
                refine (F5 _).mono ?_
                rintro e wA ⟨rfl,hbA⟩
                replace HA:=Lib.hid (HA.out.below hlt hbA)
                clear hbA
                unfold DA BU
                go_wp2_with fail
                refine (IH.out _ _ _ _ _ _ _ HA.out.st.tape (by exact Lu) (by omega) (by omega) (by omega) (by omega) (by omega)).mono ?_
                rintro e wA ⟨x,cs,hx,hex,rfl,hTA,hbA⟩
                replace HA:=Lib.hid (HA.out.push hlt hx hex hTA hbA)
                obtain ⟨_,_,_,_,_,_,_,_,_,_,_,_,rfl⟩:=hex.cells
                clear hx hex hTA hbA
                obtain ⟨y0,y1,y2,y3⟩:=Da HA.out.st.ty; simp only at y0 y1 y2 y3; obtain ⟨r0,r1,r2,r3,r4,r5,r6,r7,r8,r9,f0,f1,f2,f3,f4,f5,f6,f7,f8,f9⟩:=Cr HA.out.st.res; have hz:=Ak HA.out.st.res; have hyz:=Ak HA.out.st.ty
                go_wp2_with fail
                refine bodyPost_ret (v:=.agg #[D 4,D 0,D 0,D 0,D 0,D 0,.string ⟨#[115]⟩,D 0,D 0,.slice (some ⟨wA.heap.size,0,none⟩) 1 1]) (by simp [results,Tryz.results36,go_sem,hz,r0,r1,r2,r3,r4,r5,r6,r7,r8,r9]) rfl ?_
                exact HA.out.close hlt (UA (op:=4) (name:=[115]) (by decide) (by decide) (by decide) rfl) _ _ _ _ _ _ _ _ _ _ rfl rfl (by omega)
              · have gk:((k2:Int) == 0)=false:=by simp; omega
                go_upto_region 41 with fail
                refine gY hlt IH.out HSy.out (by omega) (by omega) (by omega) hr0 hr1 rfl rfl rfl rfl rfl rfl HA.out ?_
                intro aF u x cs e8 ed hC hx hex
                have HC:=Lib.hid hC
                have HX:=Lib.hid hx
                have HE:=Lib.hid hex
                clear hC hx hex
                go_wp2_with fail
                exact Ky (by omega) hlt e8 ed HC.out HX.out HE.out
        · exact absurd HB.out (by simp)
    · clear hc ST0
      obtain ⟨y0,y1,y2,y3⟩:=Da ST1.out.ty
      simp only at y0 y1 y2 y3
      go_wp2_with fail
      refine (UI b ns (tb,tm,th,td) rules _ ST1.out.tape HTy.out hr0 hr1).mono ?_
      rintro e w2 ⟨x,cs,hx,hex,rfl,hT2,hb2⟩
      have ST2:=Lib.hid (ST1.out.next hlt hT2 hb2)
      have HE:=Lib.hid hex
      have HX:=Lib.hid hx
      obtain ⟨a0,a1,a2,a3,a4,a5,a6,a7,a8,A,nn,cc,rfl⟩:=hex.cells
      have hz:=Ak ST1.out.res
      clear hT2 hb2 hex hx
      obtain ⟨r0,r1,r2,r3,r4,r5,r6,r7,r8,r9,f0,f1,f2,f3,f4,f5,f6,f7,f8,f9⟩:=Cr ST2.out.res
      go_wp2_with fail
      refine bodyPost_ret (v:=.agg #[D a0,D a1,D a2,D a3,D a4,D a5,.string ⟨a6.toArray⟩,D a7,D a8,.slice A nn cc]) (by simp [results,Tryz.results36,go_sem,r0,r1,r2,r3,r4,r5,r6,r7,r8,r9]) rfl ?_
      exact Fj HE.out hz (HX.out.mono (by omega)) ST2.out.tape ST2.out.but hlt _ _ _ _ _ _ _ _ _ _
end Go.Proofs.YtmcpjkcggfmcmaaGreatDoor
namespace Go.Proofs.YtmcpjkcggfmcmaaGreatDoor
theorem RG (b:Nat) (ns:List Int) (n:Nat) (j:1≤n→Bv b ns n):Bv b ns (n + 1):=by
 intro tb tm th td h a w i ht g e f d c
 cases tb with
 | true=>exact cT b ns n j true rfl tm th td h a w i ht g e f d c
 | false=>exact ZL b ns n j false rfl tm th td h a w i ht g e f d c
theorem UW (b:Nat) (ns:List Int):∀ n:Nat,Bv b ns (n + 1)
 | 0=>RG b ns 0 (fun h=>absurd h (by omega))
 | n + 1=>RG b ns (n + 1) (fun _=>UW b ns n)
end Go.Proofs.YtmcpjkcggfmcmaaGreatDoor

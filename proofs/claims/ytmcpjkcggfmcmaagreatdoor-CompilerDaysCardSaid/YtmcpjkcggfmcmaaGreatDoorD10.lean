/-
  Part 10 of a proof: contracts of functions.
-/
import Derived.Test.YtmcpjkcggfmcmaaGreatDoorD09
import Derived.Deep.DeepCutAuto
import Derived.Deep.RegionHeld3
import Derived.Deep.CutBlock
set_option linter.all false
namespace Go.Proofs.YtmcpjkcggfmcmaaGreatDoor
open Go.RowKit
def QF (op:Int):Nat:=if op=4∨op=16∨op=17∨op=19 then 1 else if 5≤op∧op≤15 then 2 else if op=18 then 3 else 0
def Hk (op num den mu hu du:Int) (name:List UInt8) (count mode:Int) (n:Nat):Prop:=
 1≤op∧op≤21∧0≤num∧num≤100∧0≤den∧den≤100∧-1≤mu∧mu≤1∧-1≤hu∧hu≤1∧-1≤du∧du≤1∧name.length≤5∧0≤count∧count≤3∧0≤mode∧mode≤6∧n=QF op
mutual
def Q6:Ex→Prop
 | .mk op num den mu hu du name count mode kids=>Hk op num den mu hu du name count mode kids.length∧okEs kids
def okEs:List Ex→Prop
 | []=>True
 | e :: es=>Q6 e∧okEs es
end
def Dr (h:Nat) (x:Ex):Prop:=Q6 x∧x.height≤h
theorem I8 {op num den mu hu du:Int} {name:List UInt8} {a mode:Int} (h:Hk op num den mu hu du name a mode 0):Dr 1 (.mk op num den mu hu du name a mode []):=by
 refine ⟨?_,?_⟩
 ·unfold Q6 okEs; exact ⟨h,trivial⟩
 ·unfold Ex.height Ex.heights; exact Nat.le_refl _
theorem mj {x:Int×Int} (h:x∈Co):0≤x.1∧x.1≤100∧0≤x.2∧x.2≤100:=by
 simp only [Co,List.mem_cons,List.not_mem_nil,or_false] at h
 rcases h with rfl | rfl | rfl | rfl | rfl | rfl | rfl | rfl | rfl | rfl <;> decide
def BJ:List (Bool×Int×Int×Int):=[Ds,Cc,Dj,Cd,BU]
theorem mg:(Tryz.prog.info? 9).map (fun i=>(i.zero,i.size,i.bytes))=some (some (.string ⟨#[]⟩),1,16):=by kernel_rfl
def JV:List Value:=[D 0,D 0,D 0,D 0,D 0,D 0,.string ⟨#[]⟩,D 0,D 0,.slice none 0 0]
structure FE (b:Nat) (ns:List Int) (t:Bool×Int×Int×Int) (w wx:World):Prop where
 ty:wx.heap[w.heap.size]?=some (.cells #[.bool t.1,D t.2.1,D t.2.2.1,D t.2.2.2] 26 (0,0))
 res:wx.heap[w.heap.size + 1]?=some (.cells JV.toArray 32 (0,0))
 tape:Bl b ns wx
 but:Ae b w wx
theorem FE.next {b:Nat} {ns:List Int} {t:Bool×Int×Int×Int} {w c a:World} (h:FE b ns t w c) (d:b < w.heap.size) (e:Bl b ns a) (hb:Ae b c a):FE b ns t w a:=
 ⟨(hb.block _ (Ak h.ty) (by omega)).trans h.ty,(hb.block _ (Ak h.res) (by omega)).trans h.res,e,h.but.trans hb⟩
theorem FE.below {b:Nat} {ns:List Int} {t:Bool×Int×Int×Int} {w a d:World} (h:FE b ns t w a) (c:b < w.heap.size) (hb:Below a.heap.size a d):FE b ns t w d:=
 h.next c (h.tape.below hb) (.of_below hb)
theorem FE.grown {b:Nat} {ns:List Int} {t:Bool×Int×Int×Int} {w c d:World} {row:Option Nat} (h:FE b ns t w c) (i:b < w.heap.size) (hg:c.grownBy d row) (hr:∀ k,row=some k→w.heap.size + 2≤k):FE b ns t w d:=by
 have hz:=Ak h.res
 have key:∀ k,k < c.heap.size→k < w.heap.size + 2→d.heap[k]?=c.heap[k]?:=fun k a j=>hg.block k a (fun e=>by have:=hr k e.symm; omega)
 obtain ⟨v,k,a,hc,hi⟩:=h.tape
 have f:=Ak hc
 refine ⟨(key _ (Ak h.ty) (by omega)).trans h.ty,(key _ hz (by omega)).trans h.res,⟨v,k,a,(key _ f (by omega)).trans hc,hi.keep (fun g hg=>key g (by omega) (by omega))⟩,?_⟩
 have hs:=h.but.size
 exact ⟨hg.os.trans h.but.os,hg.tape.trans h.but.tape,hg.output.trans h.but.output,Nat.le_trans h.but.size hg.size,fun k a hb=>(key k (by omega) (by omega)).trans (h.but.block k a hb)⟩
theorem FG {w:World} {base:Nat} {e:TypeId} {size:Nat} {v:Value} {n:Nat} {xs:List Value} (h:w.ownsRow base e size v n xs) {k:Nat} (a:v.ownBlock=some k):base≤k:=by
 rcases h.2 with ⟨rfl,_⟩ | ⟨g,cap,b,rfl,hg,_⟩
 ·simp [Value.ownBlock] at a
 ·simp [Value.ownBlock] at a; omega
theorem mZ {w:World} {base:Nat} {e:TypeId} {size:Nat} {v:Value} {n:Nat} {xs:List Value} (h:w.ownsRow base e size v n xs) {k:Nat} (a:v.ownBlock=some k):k < w.heap.size:=by
 rcases h.2 with ⟨rfl,_⟩ | ⟨g,cap,b,rfl,hg,hb,_⟩
 ·simp [Value.ownBlock] at a
 ·simp [Value.ownBlock] at a; subst a; exact Ak hb
theorem Cr {w:World} {g:Nat} {a0 d a2 a3 a4 a5 c b a a9:Value} {T:TypeId} (h:w.heap[g]?=some (.cells [a0,d,a2,a3,a4,a5,c,b,a,a9].toArray T (0,0))) :
  w.cell? ⟨g,0,none⟩=some a0∧w.cell? ⟨g,1,none⟩=some d∧w.cell? ⟨g,2,none⟩=some a2∧w.cell? ⟨g,3,none⟩=some a3∧w.cell? ⟨g,4,none⟩=some a4∧w.cell? ⟨g,5,none⟩=some a5∧w.cell? ⟨g,6,none⟩=some c∧w.cell? ⟨g,7,none⟩=some b∧w.cell? ⟨g,8,none⟩=some a∧w.cell? ⟨g,9,none⟩=some a9∧
  w.frozen? ⟨g,0,none⟩=false∧w.frozen? ⟨g,1,none⟩=false∧w.frozen? ⟨g,2,none⟩=false∧w.frozen? ⟨g,3,none⟩=false∧w.frozen? ⟨g,4,none⟩=false∧w.frozen? ⟨g,5,none⟩=false∧w.frozen? ⟨g,6,none⟩=false∧w.frozen? ⟨g,7,none⟩=false∧w.frozen? ⟨g,8,none⟩=false∧w.frozen? ⟨g,9,none⟩=false:=
 ⟨Lib.cell_of_heap h 0,Lib.cell_of_heap h 1,Lib.cell_of_heap h 2,Lib.cell_of_heap h 3,Lib.cell_of_heap h 4,Lib.cell_of_heap h 5,Lib.cell_of_heap h 6,Lib.cell_of_heap h 7,Lib.cell_of_heap h 8,Lib.cell_of_heap h 9,
  Lib.frozen_of_heap h 0,Lib.frozen_of_heap h 1,Lib.frozen_of_heap h 2,Lib.frozen_of_heap h 3,Lib.frozen_of_heap h 4,Lib.frozen_of_heap h 5,Lib.frozen_of_heap h 6,Lib.frozen_of_heap h 7,Lib.frozen_of_heap h 8,Lib.frozen_of_heap h 9⟩
def Fo (w:World) (g:Nat) (a0 a1 a2 a3 a4 a5 a6 a7 a8 a9:Value):World:=
 (((((((((w.setCell ⟨g,0,none⟩ a0).setCell ⟨g,1,none⟩ a1).setCell ⟨g,2,none⟩ a2).setCell ⟨g,3,none⟩ a3).setCell ⟨g,4,none⟩ a4).setCell ⟨g,5,none⟩ a5).setCell ⟨g,6,none⟩ a6).setCell ⟨g,7,none⟩ a7).setCell ⟨g,8,none⟩ a8).setCell ⟨g,9,none⟩ a9
theorem Ib {b:Nat} {ns:List Int} {w:World} (h:Bl b ns w) {g:Nat} (hg:b < g) (a0 e a2 a3 a4 a5 d c a a9:Value):Bl b ns (Fo w g a0 e a2 a3 a4 a5 d c a a9):=by
 unfold Fo
 exact (((((((((h.setCell hg _).setCell hg _).setCell hg _).setCell hg _).setCell hg _).setCell hg _).setCell hg _).setCell hg _).setCell hg _).setCell hg _
theorem Jw {b:Nat} {u w:World} (h:Ae b u w) {g:Nat} (hg:u.heap.size≤g) (a0 e a2 a3 a4 a5 d c a a9:Value):Ae b u (Fo w g a0 e a2 a3 a4 a5 d c a a9):=by
 unfold Fo
 exact (((((((((h.setNew hg _).setNew hg _).setNew hg _).setNew hg _).setNew hg _).setNew hg _).setNew hg _).setNew hg _).setNew hg _).setNew hg _
theorem JS {w w':World} {b base:Nat} {e:TypeId} {size:Nat} {v:Value} {n:Nat} {xs:List Value} (h:w.ownsRow base e size v n xs) (hb:Ae b w w') (a:∀ k,v.ownBlock=some k→k≠b):w'.ownsRow base e size v n xs:=by
 refine h.kept (row:=some b) ⟨hb.os,hb.tape,hb.output,hb.size,fun k d c=>hb.block k d (fun e=>c (by rw [e]))⟩ ?_
 cases hv:v.ownBlock with
 | none=>exact .inl rfl
 | some k=>exact .inr (fun e=>a k hv (by injection e))
theorem PP (w:World):∀ (i:Nat) (x:Int),([20,21]:List Int)[i]?=some x→(w.alloc (.cells #[D 20,D 21] 3)).cell? ⟨w.heap.size,i,none⟩=some (D x):=by
 intro i x a
 rw [Lib.cell_of_heap (heap_alloc_new w _)]
 match i with
 | 0=>simp at a; subst a; rfl
 | 1=>simp at a; subst a; rfl
 | i + 2=>simp at a
def Fq (S:List (List UInt8)):List Value:=S.map fun x=>Value.string ⟨x.toArray⟩
set_option maxHeartbeats 4000000 in
set_option maxRecDepth 100000 in
theorem UI (b:Nat) (ns:List Int) (t:Bool×Int×Int×Int) (rules:Int) (w:World) (h:Bl b ns w) (ht:t∈BJ) (hr0:0≤rules) (hr1:rules≤10) :
  Calls Tryz.prog 66 #[.pointer (some ⟨b,0,none⟩),DA t,D rules] w (Iv b ns (Dr 1) w):=by
 have HT:=Lib.hid h
 have hlt:=h.lt
 obtain ⟨i0,hi,hz0,hz1,hz2⟩:=info_parts mg
 have HTy:=Lib.hid ht
 clear h ht
 obtain ⟨tb,tm,th,td⟩:=t
 unfold DA
 simp only
 go_enter Tryz.func66,Tryz.ntmps66
 go_upto_block 0 with fail
 have st0:FE b ns (tb,tm,th,td) w ((w.alloc (.cells #[.bool tb,D tm,D th,D td] 26)).alloc (.cells #[D 0,D 0,D 0,D 0,D 0,D 0,.string ⟨#[]⟩,D 0,D 0,.slice none 0 0] 32)):=
  ⟨(Below.heap_alloc _ _ _ (by simp)).trans (heap_alloc_new w _),KN (by simp),(HT.out.alloc _).alloc _,((Ae.refl _ _).alloc _).alloc _⟩
 generalize (w.alloc (.cells #[.bool tb,D tm,D th,D td] 26)).alloc (.cells #[D 0,D 0,D 0,D 0,D 0,D 0,.string ⟨#[]⟩,D 0,D 0,.slice none 0 0] 32)=w0 at *
 have ST0:=Lib.hid st0
 clear st0 HT
 go_cut [7] (fun s7 wx=>∃ S:List (List UInt8),S.length≤2∧Hid (∀ x∈S,x.length≤5)∧wx.ownsRow (w.heap.size + 2) 9 1 s7 S.length (Fq S)∧Hid (FE b ns (tb,tm,th,td) w wx))
 case first=>
  have hty:=HTy.out
  simp only [BJ,Ds,Cc,Dj,Cd,BU,List.mem_cons,List.not_mem_nil,or_false,Prod.mk.injEq] at hty
  rcases hty with ⟨rfl,rfl,rfl,rfl⟩ | ⟨rfl,rfl,rfl,rfl⟩ | ⟨rfl,rfl,rfl,rfl⟩ | ⟨rfl,rfl,rfl,rfl⟩ | ⟨rfl,rfl,rfl,rfl⟩
  ·skip
   go_wp2_with fail
   refine (Gb _).mono ?_
   rintro e wa1 ⟨rfl,hb2⟩
   have ST3:=Lib.hid (ST0.out.below hlt hb2)
   unfold DA Ds
   clear hb2
   have hown9:wa1.ownsRow (w.heap.size + 2) 9 1 (.slice none 0 0) ([]:List (List UInt8)).length (Fq []):=⟨by simp [Fq],.inl ⟨rfl,rfl⟩⟩
   have hz10:=Ak ST3.out.res
   go_wp2_with (at_builtin; refine wpList_append_own _ rfl _ _ 39 rfl (w.heap.size + 2) 9 i0 (.string ⟨#[]⟩) 1 16 Tryz.underlying39 hi hz0 hz1 hz2 rfl (by decide) _ _ _ rfl (hown9.alloc _) ⟨wa1.heap.size,0,none⟩ 1 1 [.string ⟨#[102]⟩] rfl rfl ?c4 ?c5 ?c6 ?c7 ?c8 ?_)
   case c4=>exact cell_one_new _ _ _
   case c5=>exact fun u hu=>by simp at hu; subst hu; rfl
   case c6=>unfold maxLen; simp
   case c7=>simp
   case c8=>simp; omega
   intro va11 wa12 hown13 hg14 _
   have ST15:=Lib.hid ((ST3.out.below hlt ((Below.refl _ _).alloc (Nat.le_refl _) (.cells #[.string ⟨#[102]⟩] 9))).grown hlt hg14 (fun k hk=>FG hown9 hk))
   have hown16:wa12.ownsRow (w.heap.size + 2) 9 1 va11 ([[102]]:List (List UInt8)).length (Fq [[102]]):=hown13
   clear hown13 hg14
   by_cases hr3:3 < rules
   ·skip
    have hz22:=Ak ST15.out.res
    go_wp2_with (at_builtin; refine wpList_append_own _ rfl _ _ 39 rfl (w.heap.size + 2) 9 i0 (.string ⟨#[]⟩) 1 16 Tryz.underlying39 hi hz0 hz1 hz2 rfl (by decide) _ _ _ rfl (hown16.alloc _) ⟨wa12.heap.size,0,none⟩ 1 1 [.string ⟨#[114,51]⟩] rfl rfl ?c17 ?c18 ?c19 ?c20 ?c21 ?_)
    case c17=>exact cell_one_new _ _ _
    case c18=>exact fun u hu=>by simp at hu; subst hu; rfl
    case c19=>unfold maxLen; simp
    case c20=>simp
    case c21=>simp; omega
    intro va23 wa24 hown25 hg26 _
    have ST27:=Lib.hid ((ST15.out.below hlt ((Below.refl _ _).alloc (Nat.le_refl _) (.cells #[.string ⟨#[114,51]⟩] 9))).grown hlt hg26 (fun k hk=>FG hown16 hk))
    have hown28:wa24.ownsRow (w.heap.size + 2) 9 1 va23 ([[102],[114,51]]:List (List UInt8)).length (Fq [[102],[114,51]]):=hown25
    clear hown25 hg26
    go_wp2_with fail
    refine (CE b ns 2 _ ST27.out.tape (by omega) (by omega)).mono ?_
    rintro e wa29 ⟨k30,hk31,rfl,hT32,hb33⟩
    have ST34:=Lib.hid (ST27.out.next hlt hT32 hb33)
    have hown35:=JS hown28 hb33 (fun k hk=>by have:=FG hown28 hk; omega)
    clear hT32
    by_cases hk0:k30=0
    ·subst hk0
     go_wp2_with fail
     refine (CE b ns 2 _ ST34.out.tape (by omega) (by omega)).mono ?_
     rintro e wa36 ⟨k37,hk38,rfl,hT39,hb40⟩
     have ST41:=Lib.hid (ST34.out.next hlt hT39 hb40)
     have hown42:=JS hown35 hb40 (fun k hk=>by have:=FG hown35 hk; omega)
     clear hT39
     obtain ⟨r0,r1,r2,r3,r4,r5,r6,r7,r8,r9,f0,f1,f2,f3,f4,f5,f6,f7,f8,f9⟩:=Cr ST41.out.res
     go_wp2_with fail
     refine bodyPost_ret (v:=.agg #[D 2,D 0,D 0,D 0,D 0,D 0,.string ⟨#[]⟩,D (k37:Int),D 0,.slice none 0 0]) (by simp [results,Tryz.results66,go_sem,r0,r1,r2,r3,r4,r5,r6,r7,r8,r9]) rfl ⟨.mk 2 0 0 0 0 0 [] (k37:Int) 0 [],_,I8 ⟨by omega,by omega,by omega,by omega,by omega,by omega,by omega,by omega,by omega,by omega,by omega,by omega,by simp,by omega,by omega,by omega,by omega,by decide⟩,BX.leaf ..,rfl,?_,?_⟩
     ·exact Ib ST41.out.tape (by omega) _ _ _ _ _ _ _ _ _ _
     ·exact Jw ST41.out.but (by simp) _ _ _ _ _ _ _ _ _ _
    ·have gk:((k30:Int) == 0)=false:=by simp; omega
     go_wp2_with fail
     go_meet
     case rel=>exact ⟨[[102],[114,51]],by decide,(by decide:∀ x∈([[102],[114,51]]:List (List UInt8)),x.length≤5),hown35,ST34⟩
   ·skip
    go_wp2_with fail
    refine (CE b ns 2 _ ST15.out.tape (by omega) (by omega)).mono ?_
    rintro e wa43 ⟨k44,hk45,rfl,hT46,hb47⟩
    have ST48:=Lib.hid (ST15.out.next hlt hT46 hb47)
    have hown49:=JS hown16 hb47 (fun k hk=>by have:=FG hown16 hk; omega)
    clear hT46
    by_cases hk0:k44=0
    ·subst hk0
     go_wp2_with fail
     refine (CE b ns 2 _ ST48.out.tape (by omega) (by omega)).mono ?_
     rintro e wa50 ⟨k51,hk52,rfl,hT53,hb54⟩
     have ST55:=Lib.hid (ST48.out.next hlt hT53 hb54)
     have hown56:=JS hown49 hb54 (fun k hk=>by have:=FG hown49 hk; omega)
     clear hT53
     obtain ⟨r0,r1,r2,r3,r4,r5,r6,r7,r8,r9,f0,f1,f2,f3,f4,f5,f6,f7,f8,f9⟩:=Cr ST55.out.res
     go_wp2_with fail
     refine bodyPost_ret (v:=.agg #[D 2,D 0,D 0,D 0,D 0,D 0,.string ⟨#[]⟩,D (k51:Int),D 0,.slice none 0 0]) (by simp [results,Tryz.results66,go_sem,r0,r1,r2,r3,r4,r5,r6,r7,r8,r9]) rfl ⟨.mk 2 0 0 0 0 0 [] (k51:Int) 0 [],_,I8 ⟨by omega,by omega,by omega,by omega,by omega,by omega,by omega,by omega,by omega,by omega,by omega,by omega,by simp,by omega,by omega,by omega,by omega,by decide⟩,BX.leaf ..,rfl,?_,?_⟩
     ·exact Ib ST55.out.tape (by omega) _ _ _ _ _ _ _ _ _ _
     ·exact Jw ST55.out.but (by simp) _ _ _ _ _ _ _ _ _ _
    ·have gk:((k44:Int) == 0)=false:=by simp; omega
     go_wp2_with fail
     go_meet
     case rel=>exact ⟨[[102]],by decide,(by decide:∀ x∈([[102]]:List (List UInt8)),x.length≤5),hown49,ST48⟩
  ·skip
   go_wp2_with fail
   refine (Gb _).mono ?_
   rintro e wa57 ⟨rfl,hb58⟩
   have ST59:=Lib.hid (ST0.out.below hlt hb58)
   unfold DA Ds
   clear hb58
   go_wp2_with fail
   refine (EO _).mono ?_
   rintro e wa60 ⟨rfl,hb61⟩
   have ST62:=Lib.hid (ST59.out.below hlt hb61)
   unfold DA Cc
   clear hb61
   go_wp2_with fail
   refine (CE b ns 4 _ ST62.out.tape (by omega) (by omega)).mono ?_
   rintro e wa63 ⟨k64,hk65,rfl,hT66,hb67⟩
   have ST68:=Lib.hid (ST62.out.next hlt hT66 hb67)
   clear hT66
   by_cases hk3:k64=3
   ·skip
    subst hk3
    go_wp2_with fail
    have hpz:b < wa63.heap.size:=ST68.out.tape.lt
    refine (I5 b wa63.heap.size 2 ns [20,21] _ (ST68.out.tape.alloc _) (by omega) (by decide) (by decide) (PP _)).mono ?_
    rintro e wa69 ⟨x70,hx71,rfl,hT72,hb73⟩
    have ST74:=Lib.hid ((ST68.out.below hlt ((Below.refl _ _).alloc (Nat.le_refl _) _)).next hlt hT72 hb73)
    clear hT72
    have hxx:x70=20∨x70=21:=by simpa using hx71
    clear hx71
    go_wp2_with fail
    refine (CE b ns 3 _ ST74.out.tape (by omega) (by omega)).mono ?_
    rintro e wa75 ⟨k76,hk77,rfl,hT78,hb79⟩
    have ST80:=Lib.hid (ST74.out.next hlt hT78 hb79)
    clear hT78
    obtain ⟨r0,r1,r2,r3,r4,r5,r6,r7,r8,r9,f0,f1,f2,f3,f4,f5,f6,f7,f8,f9⟩:=Cr ST80.out.res
    go_wp2_with fail
    refine bodyPost_ret (v:=.agg #[D x70,D 0,D 0,D 0,D 0,D 0,.string ⟨#[103,114,111,115,115]⟩,D (1 + (k76:Int)),D 0,.slice none 0 0]) (by simp [results,Tryz.results66,go_sem,r0,r1,r2,r3,r4,r5,r6,r7,r8,r9]) rfl ⟨.mk x70 0 0 0 0 0 [103,114,111,115,115] (1 + (k76:Int)) 0 [],_,I8 ⟨by omega,by omega,by omega,by omega,by omega,by omega,by omega,by omega,by omega,by omega,by omega,by omega,by simp,by omega,by omega,by omega,by omega,by rcases hxx with rfl | rfl <;> decide⟩,BX.leaf ..,rfl,?_,?_⟩
    ·exact Ib ST80.out.tape (by omega) _ _ _ _ _ _ _ _ _ _
    ·exact Jw ST80.out.but (by simp) _ _ _ _ _ _ _ _ _ _
   ·have gk:((k64:Int) == 3)=false:=by simp; omega
    by_cases hr2:2 < rules
    ·skip
     have hown86:wa63.ownsRow (w.heap.size + 2) 9 1 (.slice none 0 0) ([]:List (List UInt8)).length (Fq []):=⟨by simp [Fq],.inl ⟨rfl,rfl⟩⟩
     have hz87:=Ak ST68.out.res
     go_wp2_with (at_builtin; refine wpList_append_own _ rfl _ _ 39 rfl (w.heap.size + 2) 9 i0 (.string ⟨#[]⟩) 1 16 Tryz.underlying39 hi hz0 hz1 hz2 rfl (by decide) _ _ _ rfl (hown86.alloc _) ⟨wa63.heap.size,0,none⟩ 1 1 [.string ⟨#[114,50]⟩] rfl rfl ?c81 ?c82 ?c83 ?c84 ?c85 ?_)
     case c81=>exact cell_one_new _ _ _
     case c82=>exact fun u hu=>by simp at hu; subst hu; rfl
     case c83=>unfold maxLen; simp
     case c84=>simp
     case c85=>simp; omega
     intro va88 wa89 hown90 hg91 _
     have ST92:=Lib.hid ((ST68.out.below hlt ((Below.refl _ _).alloc (Nat.le_refl _) (.cells #[.string ⟨#[114,50]⟩] 9))).grown hlt hg91 (fun k hk=>FG hown86 hk))
     have hown93:wa89.ownsRow (w.heap.size + 2) 9 1 va88 ([[114,50]]:List (List UInt8)).length (Fq [[114,50]]):=hown90
     clear hown90 hg91
     by_cases hr4:4 < rules
     ·skip
      have hz99:=Ak ST92.out.res
      go_wp2_with (at_builtin; refine wpList_append_own _ rfl _ _ 39 rfl (w.heap.size + 2) 9 i0 (.string ⟨#[]⟩) 1 16 Tryz.underlying39 hi hz0 hz1 hz2 rfl (by decide) _ _ _ rfl (hown93.alloc _) ⟨wa89.heap.size,0,none⟩ 1 1 [.string ⟨#[97]⟩] rfl rfl ?c94 ?c95 ?c96 ?c97 ?c98 ?_)
      case c94=>exact cell_one_new _ _ _
      case c95=>exact fun u hu=>by simp at hu; subst hu; rfl
      case c96=>unfold maxLen; simp
      case c97=>simp
      case c98=>simp; omega
      intro va100 wa101 hown102 hg103 _
      have ST104:=Lib.hid ((ST92.out.below hlt ((Below.refl _ _).alloc (Nat.le_refl _) (.cells #[.string ⟨#[97]⟩] 9))).grown hlt hg103 (fun k hk=>FG hown93 hk))
      have hown105:wa101.ownsRow (w.heap.size + 2) 9 1 va100 ([[114,50],[97]]:List (List UInt8)).length (Fq [[114,50],[97]]):=hown102
      clear hown102 hg103
      go_wp2_with fail
      go_meet
      case rel=>exact ⟨[[114,50],[97]],by decide,(by decide:∀ x∈([[114,50],[97]]:List (List UInt8)),x.length≤5),hown105,ST104⟩
     ·go_wp2_with fail
      go_meet
      case rel=>exact ⟨[[114,50]],by decide,(by decide:∀ x∈([[114,50]]:List (List UInt8)),x.length≤5),hown93,ST92⟩
    ·go_wp2_with fail
     go_meet
     case rel=>exact ⟨[],by decide,(by decide:∀ x∈([]:List (List UInt8)),x.length≤5),⟨by simp [Fq],.inl ⟨rfl,rfl⟩⟩,ST68⟩
  ·skip
   go_wp2_with fail
   refine (Gb _).mono ?_
   rintro e wa106 ⟨rfl,hb107⟩
   have ST108:=Lib.hid (ST0.out.below hlt hb107)
   unfold DA Ds
   clear hb107
   go_wp2_with fail
   refine (EO _).mono ?_
   rintro e wa109 ⟨rfl,hb110⟩
   have ST111:=Lib.hid (ST108.out.below hlt hb110)
   unfold DA Cc
   clear hb110
   go_wp2_with fail
   refine (Gf _).mono ?_
   rintro e wa112 ⟨rfl,hb113⟩
   have ST114:=Lib.hid (ST111.out.below hlt hb113)
   unfold DA Dj
   clear hb113
   have hown120:wa112.ownsRow (w.heap.size + 2) 9 1 (.slice none 0 0) ([]:List (List UInt8)).length (Fq []):=⟨by simp [Fq],.inl ⟨rfl,rfl⟩⟩
   have hz121:=Ak ST114.out.res
   go_wp2_with (at_builtin; refine wpList_append_own _ rfl _ _ 39 rfl (w.heap.size + 2) 9 i0 (.string ⟨#[]⟩) 1 16 Tryz.underlying39 hi hz0 hz1 hz2 rfl (by decide) _ _ _ rfl (hown120.alloc _) ⟨wa112.heap.size,0,none⟩ 1 1 [.string ⟨#[104]⟩] rfl rfl ?c115 ?c116 ?c117 ?c118 ?c119 ?_)
   case c115=>exact cell_one_new _ _ _
   case c116=>exact fun u hu=>by simp at hu; subst hu; rfl
   case c117=>unfold maxLen; simp
   case c118=>simp
   case c119=>simp; omega
   intro va122 wa123 hown124 hg125 _
   have ST126:=Lib.hid ((ST114.out.below hlt ((Below.refl _ _).alloc (Nat.le_refl _) (.cells #[.string ⟨#[104]⟩] 9))).grown hlt hg125 (fun k hk=>FG hown120 hk))
   have hown127:wa123.ownsRow (w.heap.size + 2) 9 1 va122 ([[104]]:List (List UInt8)).length (Fq [[104]]):=hown124
   clear hown124 hg125
   go_wp2_with fail
   refine (CE b ns 4 _ ST126.out.tape (by omega) (by omega)).mono ?_
   rintro e wa128 ⟨k129,hk130,rfl,hT131,hb132⟩
   have ST133:=Lib.hid (ST126.out.next hlt hT131 hb132)
   have hown134:=JS hown127 hb132 (fun k hk=>by have:=FG hown127 hk; omega)
   clear hT131
   by_cases hk3:k129=3
   ·skip
    subst hk3
    go_wp2_with fail
    have hpz:b < wa128.heap.size:=ST133.out.tape.lt
    refine (I5 b wa128.heap.size 2 ns [20,21] _ (ST133.out.tape.alloc _) (by omega) (by decide) (by decide) (PP _)).mono ?_
    rintro e wa135 ⟨x136,hx137,rfl,hT138,hb139⟩
    have ST140:=Lib.hid ((ST133.out.below hlt ((Below.refl _ _).alloc (Nat.le_refl _) _)).next hlt hT138 hb139)
    clear hT138
    have hxx:x136=20∨x136=21:=by simpa using hx137
    clear hx137
    go_wp2_with fail
    refine (CE b ns 3 _ ST140.out.tape (by omega) (by omega)).mono ?_
    rintro e wa141 ⟨k142,hk143,rfl,hT144,hb145⟩
    have ST146:=Lib.hid (ST140.out.next hlt hT144 hb145)
    clear hT144
    obtain ⟨r0,r1,r2,r3,r4,r5,r6,r7,r8,r9,f0,f1,f2,f3,f4,f5,f6,f7,f8,f9⟩:=Cr ST146.out.res
    go_wp2_with fail
    refine bodyPost_ret (v:=.agg #[D x136,D 0,D 0,D 0,D 0,D 0,.string ⟨#[116,105,109,101]⟩,D (1 + (k142:Int)),D 0,.slice none 0 0]) (by simp [results,Tryz.results66,go_sem,r0,r1,r2,r3,r4,r5,r6,r7,r8,r9]) rfl ⟨.mk x136 0 0 0 0 0 [116,105,109,101] (1 + (k142:Int)) 0 [],_,I8 ⟨by omega,by omega,by omega,by omega,by omega,by omega,by omega,by omega,by omega,by omega,by omega,by omega,by simp,by omega,by omega,by omega,by omega,by rcases hxx with rfl | rfl <;> decide⟩,BX.leaf ..,rfl,?_,?_⟩
    ·exact Ib ST146.out.tape (by omega) _ _ _ _ _ _ _ _ _ _
    ·exact Jw ST146.out.but (by simp) _ _ _ _ _ _ _ _ _ _
   ·have gk:((k129:Int) == 3)=false:=by simp; omega
    go_wp2_with fail
    go_meet
    case rel=>exact ⟨[[104]],by decide,(by decide:∀ x∈([[104]]:List (List UInt8)),x.length≤5),hown134,ST133⟩
  ·skip
   go_wp2_with fail
   refine (Gb _).mono ?_
   rintro e wa147 ⟨rfl,hb148⟩
   have ST149:=Lib.hid (ST0.out.below hlt hb148)
   unfold DA Ds
   clear hb148
   go_wp2_with fail
   refine (EO _).mono ?_
   rintro e wa150 ⟨rfl,hb151⟩
   have ST152:=Lib.hid (ST149.out.below hlt hb151)
   unfold DA Cc
   clear hb151
   go_wp2_with fail
   refine (Gf _).mono ?_
   rintro e wa153 ⟨rfl,hb154⟩
   have ST155:=Lib.hid (ST152.out.below hlt hb154)
   unfold DA Dj
   clear hb154
   go_wp2_with fail
   refine (Fx _).mono ?_
   rintro e wa156 ⟨rfl,hb157⟩
   have ST158:=Lib.hid (ST155.out.below hlt hb157)
   unfold DA Cd
   clear hb157
   by_cases hr1':1 < rules
   ·skip
    have hown164:wa156.ownsRow (w.heap.size + 2) 9 1 (.slice none 0 0) ([]:List (List UInt8)).length (Fq []):=⟨by simp [Fq],.inl ⟨rfl,rfl⟩⟩
    have hz165:=Ak ST158.out.res
    go_wp2_with (at_builtin; refine wpList_append_own _ rfl _ _ 39 rfl (w.heap.size + 2) 9 i0 (.string ⟨#[]⟩) 1 16 Tryz.underlying39 hi hz0 hz1 hz2 rfl (by decide) _ _ _ rfl (hown164.alloc _) ⟨wa156.heap.size,0,none⟩ 1 1 [.string ⟨#[114,49]⟩] rfl rfl ?c159 ?c160 ?c161 ?c162 ?c163 ?_)
    case c159=>exact cell_one_new _ _ _
    case c160=>exact fun u hu=>by simp at hu; subst hu; rfl
    case c161=>unfold maxLen; simp
    case c162=>simp
    case c163=>simp; omega
    intro va166 wa167 hown168 hg169 _
    have ST170:=Lib.hid ((ST158.out.below hlt ((Below.refl _ _).alloc (Nat.le_refl _) (.cells #[.string ⟨#[114,49]⟩] 9))).grown hlt hg169 (fun k hk=>FG hown164 hk))
    have hown171:wa167.ownsRow (w.heap.size + 2) 9 1 va166 ([[114,49]]:List (List UInt8)).length (Fq [[114,49]]):=hown168
    clear hown168 hg169
    go_wp2_with fail
    go_meet
    case rel=>exact ⟨[[114,49]],by decide,(by decide:∀ x∈([[114,49]]:List (List UInt8)),x.length≤5),hown171,ST170⟩
   ·go_wp2_with fail
    go_meet
    case rel=>exact ⟨[],by decide,(by decide:∀ x∈([]:List (List UInt8)),x.length≤5),⟨by simp [Fq],.inl ⟨rfl,rfl⟩⟩,ST158⟩
  ·skip
   go_wp2_with fail
   refine (Gb _).mono ?_
   rintro e wa172 ⟨rfl,hb173⟩
   have ST174:=Lib.hid (ST0.out.below hlt hb173)
   unfold DA Ds
   clear hb173
   go_wp2_with fail
   refine (EO _).mono ?_
   rintro e wa175 ⟨rfl,hb176⟩
   have ST177:=Lib.hid (ST174.out.below hlt hb176)
   unfold DA Cc
   clear hb176
   go_wp2_with fail
   refine (Gf _).mono ?_
   rintro e wa178 ⟨rfl,hb179⟩
   have ST180:=Lib.hid (ST177.out.below hlt hb179)
   unfold DA Dj
   clear hb179
   go_wp2_with fail
   refine (Fx _).mono ?_
   rintro e wa181 ⟨rfl,hb182⟩
   have ST183:=Lib.hid (ST180.out.below hlt hb182)
   unfold DA Cd
   clear hb182
   have hown189:wa181.ownsRow (w.heap.size + 2) 9 1 (.slice none 0 0) ([]:List (List UInt8)).length (Fq []):=⟨by simp [Fq],.inl ⟨rfl,rfl⟩⟩
   have hz190:=Ak ST183.out.res
   go_wp2_with (at_builtin; refine wpList_append_own _ rfl _ _ 39 rfl (w.heap.size + 2) 9 i0 (.string ⟨#[]⟩) 1 16 Tryz.underlying39 hi hz0 hz1 hz2 rfl (by decide) _ _ _ rfl (hown189.alloc _) ⟨wa181.heap.size,0,none⟩ 1 1 [.string ⟨#[103]⟩] rfl rfl ?c184 ?c185 ?c186 ?c187 ?c188 ?_)
   case c184=>exact cell_one_new _ _ _
   case c185=>exact fun u hu=>by simp at hu; subst hu; rfl
   case c186=>unfold maxLen; simp
   case c187=>simp
   case c188=>simp; omega
   intro va191 wa192 hown193 hg194 _
   have ST195:=Lib.hid ((ST183.out.below hlt ((Below.refl _ _).alloc (Nat.le_refl _) (.cells #[.string ⟨#[103]⟩] 9))).grown hlt hg194 (fun k hk=>FG hown189 hk))
   have hown196:wa192.ownsRow (w.heap.size + 2) 9 1 va191 ([[103]]:List (List UInt8)).length (Fq [[103]]):=hown193
   clear hown193 hg194
   by_cases hr4:4 < rules
   ·skip
    have hz202:=Ak ST195.out.res
    go_wp2_with (at_builtin; refine wpList_append_own _ rfl _ _ 39 rfl (w.heap.size + 2) 9 i0 (.string ⟨#[]⟩) 1 16 Tryz.underlying39 hi hz0 hz1 hz2 rfl (by decide) _ _ _ rfl (hown196.alloc _) ⟨wa192.heap.size,0,none⟩ 1 1 [.string ⟨#[114,52]⟩] rfl rfl ?c197 ?c198 ?c199 ?c200 ?c201 ?_)
    case c197=>exact cell_one_new _ _ _
    case c198=>exact fun u hu=>by simp at hu; subst hu; rfl
    case c199=>unfold maxLen; simp
    case c200=>simp
    case c201=>simp; omega
    intro va203 wa204 hown205 hg206 _
    have ST207:=Lib.hid ((ST195.out.below hlt ((Below.refl _ _).alloc (Nat.le_refl _) (.cells #[.string ⟨#[114,52]⟩] 9))).grown hlt hg206 (fun k hk=>FG hown196 hk))
    have hown208:wa204.ownsRow (w.heap.size + 2) 9 1 va203 ([[103],[114,52]]:List (List UInt8)).length (Fq [[103],[114,52]]):=hown205
    clear hown205 hg206
    go_wp2_with fail
    go_meet
    case rel=>exact ⟨[[103],[114,52]],by decide,(by decide:∀ x∈([[103],[114,52]]:List (List UInt8)),x.length≤5),hown208,ST207⟩
   ·go_wp2_with fail
    go_meet
    case rel=>exact ⟨[[103]],by decide,(by decide:∀ x∈([[103]]:List (List UInt8)),x.length≤5),hown196,ST195⟩
 case rest=>
  obtain ⟨S,hS2,HS,hown,ST⟩:=hcut
  obtain ⟨w5,rfl⟩:∃ w5,w5=wc:=⟨_,rfl⟩
  have hsr:∀ j (h:j < S.length),w5.cell? ⟨(u7.ownBlock).getD 0,j,none⟩=some (.string ⟨S[j].toArray⟩):=by
   intro j hj
   rcases hown.2 with ⟨rfl,h0⟩ | ⟨g,cap,cur,rfl,hg⟩
   ·omega
   ·rw [show (Value.ownBlock (.slice (some ⟨g,0,none⟩) S.length cap)).getD 0=g from rfl,hown.cellAt j (by omega)]
    simp [Fq,hj]
  have HSr:=Lib.hid hsr
  have hgb:∀ k,u7.ownBlock=some k→w.heap.size + 2≤k∧k < w5.heap.size:=fun k hk=>⟨FG hown hk,mZ hown hk⟩
  have HGb:=Lib.hid hgb
  obtain ⟨v0,hv0⟩:∃ v,v=u7:=⟨_,rfl⟩
  have hty0:=Lib.cell_of_heap ST.out.ty 0
  simp only [List.getElem?_toArray,List.getElem?_cons_zero] at hty0
  clear hsr hgb hv0
  go_upto_region 26 with fail
  go_cut [92] (fun s wx=>∃ c:Bool,s=.bool c∧Hid (c=true→0 < S.length)∧Hid (FE b ns (tb,tm,th,td) w wx)∧Hid (Ae b w5 wx))
  case first=>
   rcases hown.2 with ⟨rfl,h0⟩ | ⟨g,cap,cur,rfl,hg⟩
   ·clear hown HSr HGb
    go_wp2_with fail
    go_meet
    case rel=>exact ⟨false,rfl,fun h=>(by cases h),ST,Ae.refl _ _⟩
   ·clear hown hg HSr HGb
    by_cases hn:0 < S.length
    ·cases tb
     ·go_wp2_with fail
      refine (CE b ns 3 _ ST.out.tape (by omega) (by omega)).mono ?_
      rintro e w2 ⟨k,hk,rfl,hT2,hb2⟩
      have ST2:=Lib.hid (ST.out.next hlt hT2 hb2)
      clear hT2
      go_wp2_with fail
      go_meet
      case rel=>exact ⟨_,rfl,fun _=>hn,ST2,hb2⟩
     ·go_wp2_with fail
      go_meet
      case rel=>exact ⟨true,rfl,fun _=>hn,ST,Ae.refl _ _⟩
    ·have hd:decide (0 < S.length)=false:=decide_eq_false hn
     go_wp2_with fail
     go_meet
     case rel=>exact ⟨false,rfl,fun h=>(by cases h),ST,Ae.refl _ _⟩
  case rest=>
   obtain ⟨c,rfl,hcS,ST2,HB2⟩:=hcut
   cases c
   ·clear hown HSr HGb hcS ST hty0
    have ty:=ST2.out.ty
    have y1:=Lib.cell_of_heap ty 1
    have y2:=Lib.cell_of_heap ty 2
    have y3:=Lib.cell_of_heap ty 3
    simp only [List.getElem?_toArray,List.getElem?_cons_zero,List.getElem?_cons_succ] at y1 y2 y3
    have hyz:=Ak ty
    have TD:Hid (Bl b ns wc.drew):=ST2.out.tape.below (Below.refl _ _).drew
    clear ty
    go_wp2_with fail
    go_region_held3 (fun w'=>w'.cell? ⟨w.heap.size,1,none⟩=some (D tm)∧w'.cell? ⟨w.heap.size,2,none⟩=some (D th)∧w'.cell? ⟨w.heap.size,3,none⟩=some (D td)) (go_keep)
     (first | (go_at_call 40; refine (Nx b ns _ TD.out).mono ?_; rintro e w7 ⟨⟨x1,x2⟩,hx,rfl,hT7,hb7⟩; have ST7:=Lib.hid (ST2.out.next hlt hT7 ⟨hb7.os,hb7.tape,hb7.output,hb7.size,hb7.block⟩); obtain ⟨r0,r1,r2,r3,r4,r5,r6,r7,r8,r9,f0,f1,f2,f3,f4,f5,f6,f7,f8,f9⟩:=Cr ST7.out.res; have HX:=Lib.hid (mj hx); have z1:w7.cell? ⟨w.heap.size,1,none⟩=some (D tm):=(hb7.cell (p:=⟨w.heap.size,1,none⟩) hyz (Nat.ne_of_gt hlt)).trans y1; have z2:w7.cell? ⟨w.heap.size,2,none⟩=some (D th):=(hb7.cell (p:=⟨w.heap.size,2,none⟩) hyz (Nat.ne_of_gt hlt)).trans y2; have z3:w7.cell? ⟨w.heap.size,3,none⟩=some (D td):=(hb7.cell (p:=⟨w.heap.size,3,none⟩) hyz (Nat.ne_of_gt hlt)).trans y3; clear hT7 hb7 hx))
    have hty:=HTy.out
    simp only [BJ,Ds,Cc,Dj,Cd,BU,List.mem_cons,List.not_mem_nil,or_false,Prod.mk.injEq] at hty
    have hbx:=HX.out
    go_wp2_with fail
    refine bodyPost_ret (v:=.agg #[D 1,D x1,D x2,D tm,D th,D td,.string ⟨#[]⟩,D 0,D 0,.slice none 0 0]) (by simp [results,Tryz.results66,go_sem,r0,r1,r2,r3,r4,r5,r6,r7,r8,r9]) rfl ⟨.mk 1 x1 x2 tm th td [] 0 0 [],_,I8 ⟨by omega,by omega,by omega,by omega,by omega,by omega,by omega,by omega,by omega,by omega,by omega,by omega,by simp,by omega,by omega,by omega,by omega,by decide⟩,BX.leaf ..,rfl,?_,?_⟩
    ·exact Ib ST7.out.tape (by omega) _ _ _ _ _ _ _ _ _ _
    ·exact Jw ST7.out.but (by simp) _ _ _ _ _ _ _ _ _ _
   ·have hn:=hcS.out rfl
    rcases hown.2 with ⟨rfl,h0⟩ | ⟨g,cap,cur,rfl,hg⟩
    ·omega
    ·have hgb:=HGb.out g rfl
     have HSr2:Hid (∀ j (h:j < S.length),w5.cell? ⟨g,j,none⟩=some (.string ⟨S[j].toArray⟩)):=HSr.out
     clear hown hg HSr HGb hcS ST hty0
     go_wp2_with fail
     refine (CE b ns S.length _ ST2.out.tape (by omega) (by omega)).mono ?_
     rintro e w7 ⟨k,hk,rfl,hT7,hb7⟩
     have hkS:k < S.length:=by omega
     have ST7:=Lib.hid (ST2.out.next hlt hT7 hb7)
     have hc5:=HSr2.out k hkS
     have hc7:w7.cell? ⟨g,k,none⟩=some (.string ⟨S[k].toArray⟩):=by
      have hb57:=HB2.out.trans hb7
      rw [hb57.cell (World.block_lt_of_cell? w5 _ hc5) (by simp; omega)]
      exact hc5
     have hxl:=HS.out S[k] (List.getElem_mem _)
     generalize S[k]=x at *
     obtain ⟨r0,r1,r2,r3,r4,r5,r6,r7,r8,r9,f0,f1,f2,f3,f4,f5,f6,f7,f8,f9⟩:=Cr ST7.out.res
     have hT7':=Lib.hid hT7
     clear hT7 hc5 HSr2 hk
     go_wp2_with fail
     refine bodyPost_ret (v:=.agg #[D 3,D 0,D 0,D 0,D 0,D 0,.string ⟨x.toArray⟩,D 0,D 0,.slice none 0 0]) (by simp [results,Tryz.results66,go_sem,r0,r1,r2,r3,r4,r5,r6,r7,r8,r9]) rfl ⟨.mk 3 0 0 0 0 0 x 0 0 [],_,I8 ⟨by omega,by omega,by omega,by omega,by omega,by omega,by omega,by omega,by omega,by omega,by omega,by omega,hxl,by omega,by omega,by omega,by omega,by decide⟩,BX.leaf ..,rfl,?_,?_⟩
     ·exact Ib ST7.out.tape (by omega) _ _ _ _ _ _ _ _ _ _
     ·exact Jw ST7.out.but (by simp) _ _ _ _ _ _ _ _ _ _
end Go.Proofs.YtmcpjkcggfmcmaaGreatDoor

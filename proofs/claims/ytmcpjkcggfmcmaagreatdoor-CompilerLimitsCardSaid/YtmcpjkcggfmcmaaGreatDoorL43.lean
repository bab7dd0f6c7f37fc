/-
  Part 43 of a proof: contracts of functions.
-/
import Derived.Test.YtmcpjkcggfmcmaaGreatDoorL42
set_option linter.all false
namespace Go.Proofs.YtmcpjkcggfmcmaaGreatDoor
noncomputable section
open Go.RowKit
set_option maxRecDepth 100000
set_option maxHeartbeats 1000000
attribute [local irreducible] BD Bb AF AG AL A4 Ai AO BO CV Di CC Bp At Fr
noncomputable def X8:Code:=Tryz.f3.body.getD .skip
def iI:List Item:=AB 60 [.code X8]
def Zd:List Item:=AB 60 (AF iI)
def iH:List Item:=AB 60 (AF Zd)
def Pm:List Item:=AB 60 (AF iH)
def iG:List Item:=Ac 5 (AG Pm)
def oA:List Item:=AB 60 (AO iG)
def Zc:List Item:=Ac 7 (AL Pm)
def Zb:List Item:=AB 60 (AO Zc)
def NJ:List Item:=AB 60 (AL Zb)
def Tm:List Item:=AB 60 (A4 NJ)
def cQ:List Item:=AB (As BK 90 (AG Tm)) (AG Tm)
def To:List Item:=AB 60 (AL Tm)
def Oi:List Item:=AB 60 (A4 To)
def cP:List Item:=AB (As BK 90 (AG Oi)) (AG Oi)
def cO:List Item:=Ac 18 (AL Oi)
def Tn:List Item:=AB 60 (AO cO)
theorem eu {w:World} {b k:Nat} {A:Option Addr} {c:Nat} (hA:rowsEx w A (Ev (10 + k)).ks) (g:BM.good w ⟨b,0,[Be (EV 97) none 0 none 0,Be (JV (10 + k)) none 0 A c].flatten,34,true⟩):rowsDf w (some ⟨b,0,none⟩) (H7 (10 + k)):=
 ⟨[Be (EV 97) none 0 none 0,Be (JV (10 + k)) none 0 A c],⟨_,_,rfl,F4 (GQ w) (GK w),_,_,rfl,F4 (GQ w) hA,rfl⟩,D2 (by simp) g⟩
def O2:Value→Nat
 | .slice _ n _=>n
 | _=>0
theorem SJ:∀ n,DT (Ev n)
 | 0=>by simp [Ev,DT,GZ]
 | n + 1=>by simp [Ev,DT,GZ,SJ n]
theorem Xf:∀ n,nE (Ev n) + 1=2 ^ (n + 1)
 | 0=>by simp [Ev,nE,FA]
 | n + 1=>by
  have:=Xf n
  rw [Ev,nE,FA,FA,FA,Nat.pow_succ]
  omega
theorem J5 {R:Ending→World→Prop} (k q:Nat) (hk:k≤2) (E:Nat→Value) (w0 w:World) (K:Wk w0 w [⟨q,0,[.slice none 0 0,.slice none 0 0,.slice none 0 0,.slice none 0 0],43,true⟩] [] []) (hNm:FT w0) (hR:∀ w',Below w0.heap.size w0 w'→R (.returned (.bool true)) w'):At Tryz.prog 3 R NJ (Fr 109 (CX E [(3,.int .i64 (k:Int)),(7,.pointer (some ⟨q,0,none⟩)),(8,.int .i64 ((127 + k:Nat):Int))])) w:=by
 have K1:=K.addNil 49 6 (fun e r=>r=Jb e)
 have K2:=K1.addFam Hv
 refine Bj (by kernel_rfl) (fun E wx=>∃ (i:Nat) (xs:List Fu) (Aq:Option Addr) (cq:Nat) (E0:Nat→Value),i≤127 + k∧E=CX E0 [(3,.int .i64 (k:Int)),(7,.pointer (some ⟨q,0,none⟩)),(8,.int .i64 (i:Int))]∧xs.map R3=List.replicate (127 + k - i) XB∧Wk w0 wx [⟨q,0,[.slice none 0 0,.slice none 0 0,.slice none 0 0,.slice Aq xs.length cq],43,true⟩] [Fv Aq cq xs,Ef xs] []) (fun E _=>AQ (E 8)) ⟨127 + k,[],none,0,E,Nat.le_refl _,rfl,by rw [Nat.sub_self]; rfl,K2⟩ ?_
 clear K K1 K2
 rintro E wx ⟨i,xs,Aq,cq,E0,hi,rfl,hxs,K⟩ again
 have hl:xs.length=127 + k - i:=by have:=congrArg List.length hxs; simpa using this
 refine AC Tm K [] fun w1 K1=>?_
 refine AK (decide (0 < (i:Int))) (fun c1=>?_) (fun c1=>?_)
 ·have hi0:0 < i:=by have:=of_decide_eq_true c1; omega
  refine CA BK cQ [⟨q,0,[.slice none 0 0,.slice none 0 0,.slice none 0 0,.slice Aq xs.length cq],43,true⟩,⟨w1.heap.size,0,[.int .i64 1,.int .i64 0,.int .i64 0,.int .i64 1,.int .i64 0,.int .i64 0],53,true⟩,⟨w1.heap.size + 1,0,[.string ⟨⟨[114]⟩⟩,.bool false,.int .i64 0,.int .i64 0,.int .i64 0,.slice (some ⟨w1.heap.size,0,none⟩) 1 1],49,true⟩] K1 [(0,3)] fun w2 K2=>?_
  have K3:=K2.entRows (n:=6) 1 (fun e r=>r=IB e) [((1,0,0,1,0,0):AJ)] [IB (1,0,0,1,0,0)] ⟨rfl,trivial⟩ rfl rfl (by decide) rfl
  refine CF K3.H (K3.ix 0) (K3.at 0 rfl) (([114],false,0,0,0,[(1,0,0,1,0,0)],some ⟨w1.heap.size,0,none⟩,1):Fu) (Jb (([114],false,0,0,0,[(1,0,0,1,0,0)],some ⟨w1.heap.size,0,none⟩,1):Fu)) rfl (w1.heap.size + 1) (K3.ent 1 rfl) (Ck cQ) (by kernel_rfl) (.tmp 70) (.tmp 75) 41 (by kernel_rfl) (by kernel_rfl) (by kernel_rfl) (by decide) (by kernel_rfl) (by kernel_rfl) rfl rfl (by omega) fun A3 c3 w3 Hn b3=>?_
  have K4:=K3.put 0 (by simp) b3 Hn
  have K5:=K4.take 1 2 Hv xs (xs++[(([114],false,0,0,0,[(1,0,0,1,0,0)],some ⟨w1.heap.size,0,none⟩,1):Fu)]) (([114],false,0,0,0,[(1,0,0,1,0,0)],some ⟨w1.heap.size,0,none⟩,1):Fu) rfl rfl (by decide) (by intro z; simp [or_comm])
  have K6:Wk w0 w3 [⟨q,0,[.slice none 0 0,.slice none 0 0,.slice none 0 0,.slice Aq xs.length cq],43,true⟩] [Fv A3 c3 (xs++[(([114],false,0,0,0,[(1,0,0,1,0,0)],some ⟨w1.heap.size,0,none⟩,1):Fu)]),Ef (xs++[(([114],false,0,0,0,[(1,0,0,1,0,0)],some ⟨w1.heap.size,0,none⟩,1):Fu)])] []:=K5.pk [0] [0,1]
  have hl2:(xs++[(([114],false,0,0,0,[(1,0,0,1,0,0)],some ⟨w1.heap.size,0,none⟩,1):Fu)]).length=127 + k - (i - 1):=by simp; omega
  have hx2:(xs++[(([114],false,0,0,0,[(1,0,0,1,0,0)],some ⟨w1.heap.size,0,none⟩,1):Fu)]).map R3=List.replicate (127 + k - (i - 1)) XB:=by
   rw [List.map_append,hxs,show 127 + k - (i - 1)=127 + k - i + 1 by omega,List.replicate_succ']
   rfl
  generalize xs++[(([114],false,0,0,0,[(1,0,0,1,0,0)],some ⟨w1.heap.size,0,none⟩,1):Fu)]=ys at K6 hl2 hx2 ⊢
  refine Bv (Ai NJ) [⟨q,0,[.slice none 0 0,.slice none 0 0,.slice none 0 0,.slice A3 ys.length c3],43,true⟩] K6 [(0,3)] fun w4 K7=>?_
  refine Ax [(3,.int .i64 (k:Int)),(7,.pointer (some ⟨q,0,none⟩)),(8,.int .i64 (IntKind.i64.wrap ((i:Int) - 1)))] fun E4=>?_
  rw [IntWalk.i64_in ((i:Int) - 1) (by omega),show (i:Int) - 1=((i - 1:Nat):Int) by omega]
  refine again _ _ ⟨i - 1,ys,A3,c3,E4,by omega,rfl,hx2,K7⟩ ?_
  show AQ (.int .i64 ((i - 1:Nat):Int)) < AQ (.int .i64 (i:Int))
  simp only [AQ]
  omega
 ·obtain rfl:i=0:=by have:=of_decide_eq_false c1; omega
  clear again
  rw [Nat.sub_zero] at hxs hl
  refine Bv To [⟨q,0,[.slice none 0 0,.slice none 0 0,.slice none 0 0,.slice Aq xs.length cq],43,true⟩,⟨w1.heap.size,0,[.int .i64 1,.int .i64 0,.int .i64 0,.int .i64 1,.int .i64 0,.int .i64 0],53,true⟩] K1 [] fun w2 K2=>?_
  have K3:=K2.entRows (n:=6) 1 (fun e r=>r=IB e) [((1,0,0,1,0,0):AJ)] [IB (1,0,0,1,0,0)] ⟨rfl,trivial⟩ rfl rfl (by decide) rfl
  refine Ax [(3,.int .i64 (k:Int)),(7,.pointer (some ⟨q,0,none⟩)),(9,.slice (some ⟨w1.heap.size,0,none⟩) 1 1)] fun E2=>?_
  refine Bj (by kernel_rfl) (fun E wx=>∃ (m:Nat) (A:Option Addr) (c:Nat) (E0:Nat→Value),m≤4094 + k∧E=CX E0 [(3,.int .i64 (k:Int)),(7,.pointer (some ⟨q,0,none⟩)),(9,.slice A (DI m).length c)]∧Wk w0 wx [⟨q,0,[.slice none 0 0,.slice none 0 0,.slice none 0 0,.slice Aq xs.length cq],43,true⟩] [Fv Aq cq xs,Ef xs,CM A c (DI m)] []) (fun E _=>5000 - O2 (E 9)) ⟨0,some ⟨w1.heap.size,0,none⟩,1,E2,Nat.zero_le _,rfl,K3⟩ ?_
  clear K1 K2 K3
  rintro E wx ⟨m,A,c,E0,hm,rfl,K⟩ again
  have hlm:(DI m).length=m + 1:=by simp [DI]
  refine AC Oi K [] fun w3 K1=>?_
  refine AK (decide (((DI m).length:Int) < IntKind.i64.wrap (4095 + (k:Int)))) (fun c2=>?_) (fun c2=>?_)
  ·rw [IntWalk.i64_in (4095 + (k:Int)) (by omega),hlm] at c2
   have hmk:m + 1 < 4095 + k:=by have:=of_decide_eq_true c2; omega
   refine CA BK cP [⟨q,0,[.slice none 0 0,.slice none 0 0,.slice none 0 0,.slice Aq xs.length cq],43,true⟩,⟨w3.heap.size,0,[.int .i64 14,.int .i64 0,.int .i64 0,.int .i64 0,.int .i64 0,.int .i64 0],53,true⟩] K1 [] fun w4 K2=>?_
   refine CF K2.H (K2.ix 2) (K2.at 2 rfl) ((14,0,0,0,0,0):AJ) (IB (14,0,0,0,0,0)) rfl (w3.heap.size) (K2.ent 1 rfl) (Ck cP) (by kernel_rfl) (.tmp 86) (.tmp 88) 47 (by kernel_rfl) (by kernel_rfl) (by kernel_rfl) (by decide) (by kernel_rfl) (by kernel_rfl) rfl rfl (by omega) fun A5 c5 w5 Hn b5=>?_
   have K4:=K2.put 2 (by simp) b5 Hn
   have hK:DI m++[(14,0,0,0,0,0)]=DI (m + 1):=by unfold DI; rw [List.cons_append,List.replicate_succ']
   have K5:Wk w0 w5 [⟨q,0,[.slice none 0 0,.slice none 0 0,.slice none 0 0,.slice Aq xs.length cq],43,true⟩] [Fv Aq cq xs,Ef xs,CM A5 c5 (DI m++[(14,0,0,0,0,0)])] []:=K4.pk [0] [0,1,2]
   rw [hK] at K5 ⊢
   refine AC (Ai To) K5 [] fun w6 K6=>?_
   refine Ax [(3,.int .i64 (k:Int)),(7,.pointer (some ⟨q,0,none⟩)),(9,.slice A5 (DI (m + 1)).length c5)] fun E6=>?_
   refine again _ _ ⟨m + 1,A5,c5,E6,by omega,rfl,K6⟩ ?_
   show 5000 - O2 (.slice A5 (DI (m + 1)).length c5) < 5000 - O2 (.slice A (DI m).length c)
   simp only [O2,hlm,show (DI (m + 1)).length=m + 2 by simp [DI]]
   omega
  ·rw [IntWalk.i64_in (4095 + (k:Int)) (by omega),hlm] at c2
   obtain rfl:m=4094 + k:=by have:=of_decide_eq_false c2; omega
   clear again
   refine Bw 18 cO [⟨q,0,[.slice none 0 0,.slice none 0 0,.slice none 0 0,.slice Aq xs.length cq],43,true⟩,⟨w3.heap.size,0,[.string ⟨⟨[114]⟩⟩,.bool false,.int .i64 0,.int .i64 0,.int .i64 0,.slice A (DI (4094 + k)).length c],49,true⟩,⟨w3.heap.size + 1,0,[.slice none 0 0,.slice none 0 0,.slice none 0 0,.slice (some ⟨w3.heap.size,0,none⟩) 1 1],43,true⟩] K1 [(2,0)] fun w4 K2=>?_
   have K3:=K2.entRows (n:=6) 1 (fun e r=>r=Jb e) [(([114],false,0,0,0,DI (4094 + k),A,c):Fu)] [Jb (([114],false,0,0,0,DI (4094 + k),A,c):Fu)] ⟨rfl,trivial⟩ rfl rfl (Nat.le_of_ble_eq_true rfl) rfl
   have K4:=K3.addFam Hv
   have K5:=K4.take 4 2 Hv [] [(([114],false,0,0,0,DI (4094 + k),A,c):Fu)] (([114],false,0,0,0,DI (4094 + k),A,c):Fu) rfl rfl (by decide) (by intro z; simp)
   have hQ:∀ u,Below w4.heap.size w4 u→rowsRt u Aq (List.replicate (127 + k) XB):=fun u hu=>by
    have:=(K5.H.rowsRt 2 3 rfl rfl).below hu
    rwa [hxs] at this
   have hC:∀ u,Below w4.heap.size w4 u→rowsRt u (some ⟨w3.heap.size,0,none⟩) [([114],false,0,0,0,DI (4094 + k))]:=fun u hu=>(K5.H.rowsRt 4 5 rfl rfl).below hu
   have hS:∀ u:World,rowsStr u none []:=fun u=>.inl rfl
   have hT:∀ u:World,rowsSc u none []:=fun u=>⟨[],trivial,.inl rfl⟩
   have hV1:=pF k hk
   have hV2:=VT k hk
   have hQv:∀ u,Below w4.heap.size w4 u→Calls Tryz.prog 9 ([.agg ⟨[.slice none 0 0,.slice none 0 0,.slice none 0 0,.slice Aq xs.length cq]⟩]:List Value).toArray u fun e w'=>e=.returned (.bool (decide (k < 2)))∧Below u.heap.size u w':=fun u hu=>by
    have:=FO none [] 0 none [] 0 none [] 0 Aq (List.replicate (127 + k) XB) cq u (hS u) (by decide) (hT u) (by decide) (hS u) (by decide) (hQ u hu) (by rw [List.length_replicate]; omega) (fun e he=>by cases he) (fun e he=>by rw [List.eq_of_mem_replicate he]; decide)
    rw [hV1,List.length_replicate,← hl] at this
    exact this
   have hCv:∀ u,Below w4.heap.size w4 u→Calls Tryz.prog 9 ([.agg ⟨[.slice none 0 0,.slice none 0 0,.slice none 0 0,.slice (some ⟨w3.heap.size,0,none⟩) 1 1]⟩]:List Value).toArray u fun e w'=>e=.returned (.bool (decide (k < 2)))∧Below u.heap.size u w':=fun u hu=>by
    have:=FO none [] 0 none [] 0 none [] 0 (some ⟨w3.heap.size,0,none⟩) [([114],false,0,0,0,DI (4094 + k))] 1 u (hS u) (by decide) (hT u) (by decide) (hS u) (by decide) (hC u hu) (Nat.le_of_ble_eq_true rfl) (fun e he=>by cases he) (fun e he=>by rw [List.mem_singleton.1 he]; show (DI (4094 + k)).length≤_; rw [hlm]; omega)
    rw [hV2] at this
    exact this
   clear hV1 hV2 hQ hC hxs hlm hS hT
   have B5:=K5.B
   obtain rfl | rfl | rfl:k=0∨k=1∨k=2:=by omega
   ·refine Aj K5 [(0,0,0),(6,1,0)] [⟨1,[(94,.agg ⟨[.slice none 0 0,.slice none 0 0,.slice none 0 0,.slice Aq xs.length cq]⟩)],.bool true,true⟩,⟨7,[(100,.agg ⟨[.slice none 0 0,.slice none 0 0,.slice none 0 0,.slice (some ⟨w3.heap.size,0,none⟩) 1 1]⟩)],.bool true,true⟩,⟨13,[],.bool true,true⟩] K5.G (fun sp hsp=>?_) fun w5 E5 K6=>?_
    ·simp only [List.mem_cons,List.not_mem_nil,or_false] at hsp
     rcases hsp with rfl | rfl | rfl
     ·exact AR 9 [.tmp 94] [.agg ⟨[.slice none 0 0,.slice none 0 0,.slice none 0 0,.slice Aq xs.length cq]⟩] (fun _=>by kernel_rfl) fun hc u hu=>AP hu (hQv u hu)
     ·exact AR 9 [.tmp 100] [.agg ⟨[.slice none 0 0,.slice none 0 0,.slice none 0 0,.slice (some ⟨w3.heap.size,0,none⟩) 1 1]⟩] (fun _=>by kernel_rfl) fun hc u hu=>AP hu (hCv u hu)
     ·exact AR 10 [] [] (fun _=>by kernel_rfl) fun hc u hu=>AP hu (LN u (El hNm (B5.trans (hu.mono B5.size))))
    refine AC Tn K6 [] fun w6 K7=>?_
    exact Aa K7 (0,0) (.bool true) (hR _ K7.B)
   ·refine Aj K5 [(0,0,0),(6,1,0)] [⟨1,[(94,.agg ⟨[.slice none 0 0,.slice none 0 0,.slice none 0 0,.slice Aq xs.length cq]⟩)],.bool true,true⟩,⟨7,[(100,.agg ⟨[.slice none 0 0,.slice none 0 0,.slice none 0 0,.slice (some ⟨w3.heap.size,0,none⟩) 1 1]⟩)],.bool true,true⟩,⟨13,[],.bool true,true⟩] K5.G (fun sp hsp=>?_) fun w5 E5 K6=>?_
    ·simp only [List.mem_cons,List.not_mem_nil,or_false] at hsp
     rcases hsp with rfl | rfl | rfl
     ·exact AR 9 [.tmp 94] [.agg ⟨[.slice none 0 0,.slice none 0 0,.slice none 0 0,.slice Aq xs.length cq]⟩] (fun _=>by kernel_rfl) fun hc u hu=>AP hu (hQv u hu)
     ·exact AR 9 [.tmp 100] [.agg ⟨[.slice none 0 0,.slice none 0 0,.slice none 0 0,.slice (some ⟨w3.heap.size,0,none⟩) 1 1]⟩] (fun _=>by kernel_rfl) fun hc u hu=>AP hu (hCv u hu)
     ·exact AR 10 [] [] (fun _=>by kernel_rfl) fun hc u hu=>AP hu (LN u (El hNm (B5.trans (hu.mono B5.size))))
    refine AC Tn K6 [] fun w6 K7=>?_
    exact Aa K7 (0,0) (.bool true) (hR _ K7.B)
   ·refine Aj K5 [(0,0,0),(6,1,0)] [⟨1,[(94,.agg ⟨[.slice none 0 0,.slice none 0 0,.slice none 0 0,.slice Aq xs.length cq]⟩)],.bool false,true⟩,⟨7,[(100,.agg ⟨[.slice none 0 0,.slice none 0 0,.slice none 0 0,.slice (some ⟨w3.heap.size,0,none⟩) 1 1]⟩)],.bool false,true⟩,⟨13,[],.bool true,true⟩] K5.G (fun sp hsp=>?_) fun w5 E5 K6=>?_
    ·simp only [List.mem_cons,List.not_mem_nil,or_false] at hsp
     rcases hsp with rfl | rfl | rfl
     ·exact AR 9 [.tmp 94] [.agg ⟨[.slice none 0 0,.slice none 0 0,.slice none 0 0,.slice Aq xs.length cq]⟩] (fun _=>by kernel_rfl) fun hc u hu=>AP hu (hQv u hu)
     ·exact AR 9 [.tmp 100] [.agg ⟨[.slice none 0 0,.slice none 0 0,.slice none 0 0,.slice (some ⟨w3.heap.size,0,none⟩) 1 1]⟩] (fun _=>by kernel_rfl) fun hc u hu=>AP hu (hCv u hu)
     ·exact AR 10 [] [] (fun _=>by kernel_rfl) fun hc u hu=>AP hu (LN u (El hNm (B5.trans (hu.mono B5.size))))
    refine AC Tn K6 [] fun w6 K7=>?_
    exact Aa K7 (0,0) (.bool true) (hR _ K7.B)
theorem ag {R:Ending→World→Prop} (k:Nat) (hk:k≤2) (A:Option Addr) (c:Nat) (E:Nat→Value) (w:World) (hA:rowsEx w A (Ev (10 + k)).ks) (hNm:FT w) (hR:∀ w',Below w.heap.size w w'→R (.returned (.bool true)) w'):At Tryz.prog 3 R (AF Zd) (Fr 109 (CX E [(3,.int .i64 (k:Int)),(13,.agg ⟨Be (EV 97) none 0 none 0⟩),(16,.agg ⟨Bo (Ev (10 + k)) A c⟩)])) w:=by
 have K1:=Wk.start w
 refine Bv iH [⟨w.heap.size,0,[Be (EV 97) none 0 none 0,Be (JV (10 + k)) none 0 A c].flatten,34,true⟩,⟨w.heap.size + 1,0,[.string ⟨⟨[109]⟩⟩,.slice (some ⟨w.heap.size,0,none⟩) 2 2],38,true⟩] K1 [(1,0),(1,0)] fun w1 K2=>?_
 have f1:∀ d∈H7 (10 + k),GB d:=by
  intro d hd
  simp only [H7,List.mem_cons,List.not_mem_nil,or_false] at hd
  rcases hd with rfl | rfl <;> simp [GB,EV,JV,av,DT,GZ,SJ]
 have f2:∀ d∈H7 (10 + k),d.ents.length≤4294967296:=by
  intro d hd
  simp only [H7,List.mem_cons,List.not_mem_nil,or_false] at hd
  rcases hd with rfl | rfl <;> simp [EV,JV]
 have f3:∀ d∈H7 (10 + k),nE d.body≤1000000:=by
  intro d hd
  simp only [H7,List.mem_cons,List.not_mem_nil,or_false] at hd
  rcases hd with rfl | rfl
  ·decide
  ·have h1:=Xf (10 + k)
   have h2:2 ^ (10 + k + 1)≤2 ^ 13:=Nat.pow_le_pow_right (by decide) (by omega)
   show nE (Ev (10 + k))≤1000000
   omega
 refine BX (Ie [109] _ (H7 (10 + k)) 2 0 w1 (eu (hA.below K2.B) (K2.ent 0 rfl)) (Nat.le_of_ble_eq_true rfl) (by decide) f1 (Nat.le_refl _) f2 (fun d hd=>(f1 d hd).1) f3) fun en w2 hh=>?_
 obtain rfl | rfl | rfl:k=0∨k=1∨k=2:=by omega
 ·rw [show 10 + 0=10 from rfl,mf] at hh
  obtain ⟨A0,c0,A1,c1,x1,A2,c2,A3,c3,x3,rfl,q1,q3,b2,H2⟩:=hh
  refine ⟨_,rfl,?_⟩
  obtain rfl:x1=[]:=List.map_eq_nil_iff.1 q1
  have l3:x3.length=1:=by have:=congrArg List.length q3; simpa using this
  rw [l3]
  have K3:=K2.join b2 H2
  refine Bv Pm [⟨w.heap.size,0,[Be (EV 97) none 0 none 0,Be (JV 10) none 0 A c].flatten,34,true⟩,⟨w.heap.size + 1,0,[.string ⟨⟨[109]⟩⟩,.slice (some ⟨w.heap.size,0,none⟩) 2 2],38,true⟩,⟨w2.heap.size,0,[.slice A0 1 c0,.slice A1 0 c1,.slice A2 0 c2,.slice A3 1 c3],43,true⟩] K3 [(2,0)] fun w3 K4=>?_
  refine AK false (fun cc=>?_) (fun cc=>?_)
  ·cases cc
  ·have K5:Wk w w3 [⟨w2.heap.size,0,[.slice A0 1 c0,.slice A1 0 c1,.slice A2 0 c2,.slice A3 1 c3],43,true⟩] [Bg A0 c0 [[97]],D1 A1 c1 [],DS [],Bg A2 c2 [],Fv A3 c3 x3,Ef x3] []:=K4.pk [2] [0,1,2,3,4,5]
   refine Ag 7 Zc K5 [] fun w4 K6=>?_
   have hQ:∀ u,Below w4.heap.size w4 u→rowsRt u A3 [HO 10]:=fun u hu=>by
    have:=(K6.H.rowsRt 5 6 rfl rfl).below hu
    rwa [q3] at this
   obtain ⟨gr,fr,rfl,hgl,hga⟩:=(hQ w4 (Below.refl _ _)).all (by decide)
   obtain ⟨A9,c9,hr9,_⟩:=hga 0 _ rfl
   have hr:w4.rangeAt gr (fr + 0 * 6) [.string ⟨⟨[114]⟩⟩,.bool false,.int .i64 0,.int .i64 0,.int .i64 0,.slice A9 2047 c9]:=by
    have h9:MT (HO 10) A9 c9=[.string ⟨⟨[114]⟩⟩,.bool false,.int .i64 0,.int .i64 0,.int .i64 0,.slice A9 2047 c9]:=by show ([.string ⟨⟨[114]⟩⟩,.bool false,.int .i64 0,.int .i64 0,.int .i64 0,.slice A9 (GG 10).length c9]:List Value)=_; rw [O1]
    rw [← h9]; exact hr9
   refine Aj K6 (mem:=[⟨w2.heap.size,0,[.slice A0 1 c0,.slice A1 0 c1,.slice A2 0 c2,.slice (some ⟨gr,fr,none⟩) 1 c3],43,true⟩,⟨gr,fr + 0 * 6,[.string ⟨⟨[114]⟩⟩,.bool false,.int .i64 0,.int .i64 0,.int .i64 0,.slice A9 2047 c9],49,false⟩]) [(4,0,3),(10,0,3),(13,1,5),(23,0,0)] [⟨24,[(58,.agg ⟨[.slice A0 1 c0,.slice A1 0 c1,.slice A2 0 c2,.slice (some ⟨gr,fr,none⟩) 1 c3]⟩)],.bool true,true⟩] (fun e he=>?_) (fun sp hsp=>?_) fun w5 E5 K7=>?_
   ·simp only [List.mem_cons,List.not_mem_nil,or_false] at he
    rcases he with rfl | rfl
    ·exact K6.ent 0 rfl
    ·exact ⟨hgl,by simpa using hr⟩
   ·obtain rfl:=List.mem_singleton.1 hsp
    exact AR 9 [.tmp 58] [.agg ⟨[.slice A0 1 c0,.slice A1 0 c1,.slice A2 0 c2,.slice (some ⟨gr,fr,none⟩) 1 c3]⟩] (fun _=>by kernel_rfl) fun hc u hu=>AP hu (by
     have:=FO A0 [[97]] c0 A1 [] c1 A2 [] c2 (some ⟨gr,fr,none⟩) [HO 10] c3 u ((K6.H.rowsStr 1 rfl).below hu) (by decide) ((K6.H.rowsSc 2 3 rfl rfl).below hu) (by decide) ((K6.H.rowsStr 4 rfl).below hu) (by decide) (hQ u hu) (by decide) (fun e he=>by cases he) (fun e he=>by rw [List.mem_singleton.1 he]; show (GG 10).length≤_; rw [O1]; decide)
     rw [mb] at this
     exact this)
   refine AC Zb K7 [] fun w6 K8=>?_
   refine AK false (fun cc=>?_) (fun cc=>?_)
   ·cases cc
   clear cc
   refine Bv NJ [⟨w2.heap.size,0,[.slice A0 1 c0,.slice A1 0 c1,.slice A2 0 c2,.slice (some ⟨gr,fr,none⟩) 1 c3],43,true⟩,⟨w6.heap.size,0,[.slice none 0 0,.slice none 0 0,.slice none 0 0,.slice none 0 0],43,true⟩] K8 [(1,0)] fun w7 K9=>?_
   have K10:Wk w w7 [⟨w6.heap.size,0,[.slice none 0 0,.slice none 0 0,.slice none 0 0,.slice none 0 0],43,true⟩] [] []:=K9.pk [1] []
   refine Ax [(3,.int .i64 ((0:Nat):Int)),(7,.pointer (some ⟨w6.heap.size,0,none⟩)),(8,.int .i64 ((127 + 0:Nat):Int))] fun E7=>?_
   exact J5 0 w6.heap.size (by decide) E7 w w7 K10 hNm hR
 ·rw [show 10 + 1=11 from rfl,me] at hh
  obtain ⟨A0,c0,A1,c1,x1,A2,c2,A3,c3,x3,rfl,q1,q3,b2,H2⟩:=hh
  refine ⟨_,rfl,?_⟩
  obtain rfl:x1=[]:=List.map_eq_nil_iff.1 q1
  have l3:x3.length=1:=by have:=congrArg List.length q3; simpa using this
  rw [l3]
  have K3:=K2.join b2 H2
  refine Bv Pm [⟨w.heap.size,0,[Be (EV 97) none 0 none 0,Be (JV 11) none 0 A c].flatten,34,true⟩,⟨w.heap.size + 1,0,[.string ⟨⟨[109]⟩⟩,.slice (some ⟨w.heap.size,0,none⟩) 2 2],38,true⟩,⟨w2.heap.size,0,[.slice A0 1 c0,.slice A1 0 c1,.slice A2 0 c2,.slice A3 1 c3],43,true⟩] K3 [(2,0)] fun w3 K4=>?_
  refine AK false (fun cc=>?_) (fun cc=>?_)
  ·cases cc
  ·have K5:Wk w w3 [⟨w2.heap.size,0,[.slice A0 1 c0,.slice A1 0 c1,.slice A2 0 c2,.slice A3 1 c3],43,true⟩] [Bg A0 c0 [[97]],D1 A1 c1 [],DS [],Bg A2 c2 [],Fv A3 c3 x3,Ef x3] []:=K4.pk [2] [0,1,2,3,4,5]
   refine Ag 7 Zc K5 [] fun w4 K6=>?_
   have hQ:∀ u,Below w4.heap.size w4 u→rowsRt u A3 [HO 11]:=fun u hu=>by
    have:=(K6.H.rowsRt 5 6 rfl rfl).below hu
    rwa [q3] at this
   obtain ⟨gr,fr,rfl,hgl,hga⟩:=(hQ w4 (Below.refl _ _)).all (by decide)
   obtain ⟨A9,c9,hr9,_⟩:=hga 0 _ rfl
   have hr:w4.rangeAt gr (fr + 0 * 6) [.string ⟨⟨[114]⟩⟩,.bool false,.int .i64 0,.int .i64 0,.int .i64 0,.slice A9 4095 c9]:=by
    have h9:MT (HO 11) A9 c9=[.string ⟨⟨[114]⟩⟩,.bool false,.int .i64 0,.int .i64 0,.int .i64 0,.slice A9 4095 c9]:=by show ([.string ⟨⟨[114]⟩⟩,.bool false,.int .i64 0,.int .i64 0,.int .i64 0,.slice A9 (GG 11).length c9]:List Value)=_; rw [O0]
    rw [← h9]; exact hr9
   refine Aj K6 (mem:=[⟨w2.heap.size,0,[.slice A0 1 c0,.slice A1 0 c1,.slice A2 0 c2,.slice (some ⟨gr,fr,none⟩) 1 c3],43,true⟩,⟨gr,fr + 0 * 6,[.string ⟨⟨[114]⟩⟩,.bool false,.int .i64 0,.int .i64 0,.int .i64 0,.slice A9 4095 c9],49,false⟩]) [(4,0,3),(10,0,3),(13,1,5),(23,0,0)] [⟨24,[(58,.agg ⟨[.slice A0 1 c0,.slice A1 0 c1,.slice A2 0 c2,.slice (some ⟨gr,fr,none⟩) 1 c3]⟩)],.bool true,true⟩] (fun e he=>?_) (fun sp hsp=>?_) fun w5 E5 K7=>?_
   ·simp only [List.mem_cons,List.not_mem_nil,or_false] at he
    rcases he with rfl | rfl
    ·exact K6.ent 0 rfl
    ·exact ⟨hgl,by simpa using hr⟩
   ·obtain rfl:=List.mem_singleton.1 hsp
    exact AR 9 [.tmp 58] [.agg ⟨[.slice A0 1 c0,.slice A1 0 c1,.slice A2 0 c2,.slice (some ⟨gr,fr,none⟩) 1 c3]⟩] (fun _=>by kernel_rfl) fun hc u hu=>AP hu (by
     have:=FO A0 [[97]] c0 A1 [] c1 A2 [] c2 (some ⟨gr,fr,none⟩) [HO 11] c3 u ((K6.H.rowsStr 1 rfl).below hu) (by decide) ((K6.H.rowsSc 2 3 rfl rfl).below hu) (by decide) ((K6.H.rowsStr 4 rfl).below hu) (by decide) (hQ u hu) (by decide) (fun e he=>by cases he) (fun e he=>by rw [List.mem_singleton.1 he]; show (GG 11).length≤_; rw [O0]; decide)
     rw [ma] at this
     exact this)
   refine AC Zb K7 [] fun w6 K8=>?_
   refine AK false (fun cc=>?_) (fun cc=>?_)
   ·cases cc
   clear cc
   refine Bv NJ [⟨w2.heap.size,0,[.slice A0 1 c0,.slice A1 0 c1,.slice A2 0 c2,.slice (some ⟨gr,fr,none⟩) 1 c3],43,true⟩,⟨w6.heap.size,0,[.slice none 0 0,.slice none 0 0,.slice none 0 0,.slice none 0 0],43,true⟩] K8 [(1,0)] fun w7 K9=>?_
   have K10:Wk w w7 [⟨w6.heap.size,0,[.slice none 0 0,.slice none 0 0,.slice none 0 0,.slice none 0 0],43,true⟩] [] []:=K9.pk [1] []
   refine Ax [(3,.int .i64 ((1:Nat):Int)),(7,.pointer (some ⟨w6.heap.size,0,none⟩)),(8,.int .i64 ((127 + 1:Nat):Int))] fun E7=>?_
   exact J5 1 w6.heap.size (by decide) E7 w w7 K10 hNm hR
 ·rw [show 10 + 2=12 from rfl,mc] at hh
  obtain ⟨A0,c0,A1,c1,x1,A2,c2,A3,c3,x3,rfl,q1,q3,b2,H2⟩:=hh
  refine ⟨_,rfl,?_⟩
  obtain rfl:x1=[]:=List.map_eq_nil_iff.1 q1
  obtain rfl:x3=[]:=List.map_eq_nil_iff.1 q3
  have K3:=K2.join b2 H2
  refine Bv Pm [⟨w.heap.size,0,[Be (EV 97) none 0 none 0,Be (JV 12) none 0 A c].flatten,34,true⟩,⟨w.heap.size + 1,0,[.string ⟨⟨[109]⟩⟩,.slice (some ⟨w.heap.size,0,none⟩) 2 2],38,true⟩,⟨w2.heap.size,0,[.slice A0 0 c0,.slice A1 0 c1,.slice A2 0 c2,.slice A3 0 c3],43,true⟩] K3 [(2,0)] fun w3 K4=>?_
  refine AK true (fun cc=>?_) (fun cc=>?_)
  ·have K5:Wk w w3 [⟨w2.heap.size,0,[.slice A0 0 c0,.slice A1 0 c1,.slice A2 0 c2,.slice A3 0 c3],43,true⟩] [] []:=K4.pk [2] []
   refine Ag 5 iG K5 [] fun w4 K6=>?_
   refine Aj K6 [(4,0,3)] [] K6.G (fun sp hsp=>by cases hsp) fun w5 E5 K7=>?_
   refine AC oA K7 [] fun w6 K8=>?_
   refine AK false (fun cc=>?_) (fun cc=>?_)
   ·cases cc
   clear cc
   refine Bv NJ [⟨w2.heap.size,0,[.slice A0 0 c0,.slice A1 0 c1,.slice A2 0 c2,.slice A3 0 c3],43,true⟩,⟨w6.heap.size,0,[.slice none 0 0,.slice none 0 0,.slice none 0 0,.slice none 0 0],43,true⟩] K8 [(1,0)] fun w7 K9=>?_
   have K10:Wk w w7 [⟨w6.heap.size,0,[.slice none 0 0,.slice none 0 0,.slice none 0 0,.slice none 0 0],43,true⟩] [] []:=K9.pk [1] []
   refine Ax [(3,.int .i64 ((2:Nat):Int)),(7,.pointer (some ⟨w6.heap.size,0,none⟩)),(8,.int .i64 ((127 + 2:Nat):Int))] fun E7=>?_
   exact J5 2 w6.heap.size (by decide) E7 w w7 K10 hNm hR
  ·cases cc
theorem VS (n:Int) (w:World) (hn0:-9223372036854775808≤n) (hn1:n≤9223372036854775807) (hNm:FT w):Calls Tryz.prog 3 ([.int .i64 n]:List Value).toArray w fun e w'=>e=.returned (.bool true)∧Below w.heap.size w w':=by
 refine Ab (args:=[.int .i64 n]) (fn:=Tryz.f3) (c:=X8) (n:=109) ?_
 have K1:=Wk.start w
 refine AC iI K1 [] fun w1 K2=>?_
 refine BX (SD n 3 w1 hn0 hn1 (by decide) (by decide)) fun en w2 hh=>?_
 obtain ⟨rfl,rfl⟩:=hh
 refine ⟨_,rfl,?_⟩
 have hm0:=Int.emod_nonneg n (show (3:Int)≠0 by decide)
 have hm1:=Int.emod_lt_of_pos n (show (0:Int) < 3 by decide)
 obtain ⟨k,hk,hk2⟩:∃ k:Nat,n % 3=(k:Int)∧k≤2:=⟨(n % 3).toNat,by omega,by omega⟩
 rw [hk]
 clear hm0 hm1 hk
 refine AC Zd K2 [] fun w3 K3=>?_
 refine BX (args:=[.int .i64 (IntKind.i64.wrap (10 + (k:Int)))]) (by rw [IntWalk.i64_in (10 + (k:Int)) (by omega)]; exact Vi (10 + k) (by omega) w3) fun en w4 hh=>?_
 obtain ⟨A,c,rfl,hA,b4⟩:=hh
 refine ⟨_,rfl,?_⟩
 have K4:=K3.below b4
 refine Ax [(3,.int .i64 (k:Int)),(13,.agg ⟨Be (EV 97) none 0 none 0⟩),(16,.agg ⟨Bo (Ev (10 + k)) A c⟩)] fun E5=>?_
 exact ag k hk2 A c E5 w4 hA (El hNm K4.B) fun w' b=>⟨rfl,K4.B.trans (b.mono K4.B.size)⟩
end
end Go.Proofs.YtmcpjkcggfmcmaaGreatDoor

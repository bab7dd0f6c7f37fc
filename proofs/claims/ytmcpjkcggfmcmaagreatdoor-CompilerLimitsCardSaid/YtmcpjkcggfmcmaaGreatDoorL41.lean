/-
  Part 41 of a proof: contracts of functions.
-/
import Derived.Test.YtmcpjkcggfmcmaaGreatDoorL40
set_option linter.all false
namespace Go.Proofs.YtmcpjkcggfmcmaaGreatDoor
open Go.RowKit
set_option maxRecDepth 100000
set_option maxHeartbeats 1000000
theorem EB {a:List Int} {i j:Nat} {v:Int} (hi:i < a.length):(a.set i v).getD j default=if i=j then v else a.getD j default:=by
  rw [List.getD_eq_getElem?_getD,List.getD_eq_getElem?_getD,List.getElem?_set]
  by_cases h:i=j
  · rw [if_pos h,if_pos h,if_pos hi]; rfl
  · rw [if_neg h,if_neg h]
section
variable {cs tl:List AJ} {x:AJ} {i:Nat} {a:List Int}
theorem ay {h h':Int} (hi:i≤4294967290) (hl:i + 1 < a.length) (ha:a.getD i default=h) (h0:0≤h) (h1:h≤64) (ht:(Am x.1).1≤h) (ht0:0≤(Am x.1).1) (hp0:0≤(Am x.1).2) (hp1:(Am x.1).2≤1) (hh:h - (Am x.1).1 + (Am x.1).2=h') (h64:h'≤64) (h16:x.1≠16) (h17:x.1≠17)
    (hn:a.getD (i + 1) default=-1∨a.getD (i + 1) default=h'):BQ cs (x :: tl) i a=BQ cs tl (i + 1) (a.set (i + 1) h'):=by
  have hT:BS i x=[i + 1]:=by
    unfold BS Dk
    rw [IntWalk.i64_in ((i:Int) + 1) (by omega),show (x.1 == 16)=false from by simpa using h16,show (x.1 == 17)=false from by simpa using h17]
    show [((i:Int) + 1).toNat]=[i + 1]
    congr 1
  have e1:(h == -1)=false:=by simp; omega
  have e2:decide (h < (Am x.1).1)=false:=by simp; omega
  have e3:decide (64 < h')=false:=by simp; omega
  rw [BQ,ha,IntWalk.i64_in (h - (Am x.1).1) (by omega),IntWalk.i64_in (h - (Am x.1).1 + (Am x.1).2) (by omega),hh,e1,e2,e3,hT]
  simp only [cond_false]
  rw [CO,CO]
  have e4:cond (!(a.getD (i + 1) default == -1)) (!(a.getD (i + 1) default == h')) false=false:=by
    rcases hn with hn | hn <;> rw [hn] <;> simp
  rw [ha,IntWalk.i64_in (h - (Am x.1).1) (by omega),IntWalk.i64_in (h - (Am x.1).1 + (Am x.1).2) (by omega),hh,e4]
  rfl
theorem Vp {h:Int} {L:Nat} (hi:i≤4294967290) (hl:i + 1 < a.length) (hL:L < a.length) (hiL:i + 1 < L) (ha:a.getD i default=h) (h0:1≤h) (h1:h≤64) (hx:x=(17,(L:Int),0,0,0,0))
    (hn:a.getD (i + 1) default=-1) (hm:a.getD L default=-1):BQ cs (x :: tl) i a=BQ cs tl (i + 1) ((a.set (i + 1) (h - 1)).set L (h - 1)):=by
  subst hx
  have hT:BS i (17,(L:Int),0,0,0,0)=[i + 1,L]:=by
    unfold BS Dk
    rw [IntWalk.i64_in ((i:Int) + 1) (by omega)]
    show [((i:Int) + 1).toNat,((L:Nat):Int).toNat]=[i + 1,L]
    congr 1
  have e1:(h == -1)=false:=by simp; omega
  have e2:decide (h < 1)=false:=by simp; omega
  have e3:decide (64 < h - 1)=false:=by simp; omega
  have w1:IntKind.i64.wrap (h - 1)=h - 1:=IntWalk.i64_in _ (by omega)
  have w2:IntKind.i64.wrap (h - 1 + 0)=h - 1:=by rw [Int.add_zero]; exact w1
  have f1:(Am 17).1=1:=rfl
  have f2:(Am 17).2=0:=rfl
  rw [BQ]
  simp only [ha,f1,f2,w1,w2,e1,e2,e3,cond_false,hT]
  rw [CO,CO,CO]
  simp only [ha,f1,f2,w1,w2,hn,EB hl,if_neg (show ¬ i + 1=L by omega),hm]
  rfl
theorem az {h:Int} {M:Nat} (hi:i≤4294967290) (hM:M < a.length) (ha:a.getD i default=h) (h0:0≤h) (h1:h≤64) (hx:x=(16,(M:Int),0,0,0,0))
    (hm:a.getD M default=-1∨a.getD M default=h):BQ cs (x :: tl) i a=BQ cs tl (i + 1) (a.set M h):=by
  subst hx
  have hT:BS i (16,(M:Int),0,0,0,0)=[M]:=rfl
  have e1:(h == -1)=false:=by simp; omega
  have e2:decide (h < 0)=false:=by simp; omega
  have e3:decide (64 < h)=false:=by simp; omega
  have w1:IntKind.i64.wrap (h - 0)=h:=by rw [Int.sub_zero]; exact IntWalk.i64_in _ (by omega)
  have w2:IntKind.i64.wrap (h + 0)=h:=by rw [Int.add_zero]; exact IntWalk.i64_in _ (by omega)
  have f1:(Am 16).1=0:=rfl
  have f2:(Am 16).2=0:=rfl
  rw [BQ]
  simp only [ha,f1,f2,w1,w2,e1,e2,e3,cond_false,hT]
  rw [CO,CO]
  simp only [ha,f1,f2,w1,w2]
  rcases hm with hm | hm <;> rw [hm] <;> simp
end
theorem Qa {op:Int} {n:Nat} (h:(n:Int)=CP op):1≤op∧op≤21:=by
  unfold CP at h
  simp only [Bool.cond_eq_ite,beq_iff_eq] at h
  by_cases hc:1≤op∧op≤21
  · exact hc
  · exfalso
    repeat (rw [if_neg (by omega)] at h)
    omega
theorem Qb {op:Int} (h:1≤op∧op≤21):op=1∨op=2∨op=3∨op=4∨op=5∨op=6∨op=7∨op=8∨op=9∨op=10∨op=11∨op=12∨op=13∨op=14∨op=15∨op=16∨op=17∨op=18∨op=19∨op=20∨op=21:=by omega
section
variable (mi ms mp mr:List (List UInt8×Int))
theorem Qo {op num den mu hu du:Int} {nm:List UInt8} {cnt md:Int} {ks:List Ex} (hk:(ks.length:Int)=CP op) (hb:cond (op == 18) true (cond (op == 12) true (op == 13))=false) :
    Am (Ah mi ms mp mr (.mk op num den mu hu du nm cnt md ks)).1=((ks.length:Int),1)∧(Ah mi ms mp mr (.mk op num den mu hu du nm cnt md ks)).1≠16∧(Ah mi ms mp mr (.mk op num den mu hu du nm cnt md ks)).1≠17∧ks.length≤2:=by
  have hl:ks.length≤2:=by
    rcases Qb (Qa hk) with rfl | rfl | rfl | rfl | rfl | rfl | rfl | rfl | rfl | rfl | rfl | rfl | rfl | rfl | rfl | rfl | rfl | rfl | rfl | rfl | rfl
    all_goals first
      | exact absurd hb (by decide)
      | (have e:(ks.length:Int)≤2:=by rw [hk]; decide
         omega)
  rw [hk]
  refine ⟨?_,?_,?_,hl⟩ <;> (rcases Qb (Qa hk) with rfl | rfl | rfl | rfl | rfl | rfl | rfl | rfl | rfl | rfl | rfl | rfl | rfl | rfl | rfl | rfl | rfl | rfl | rfl | rfl | rfl) <;> first
    | exact absurd hb (by decide)
    | rfl
    | (show Am (cond (BV mi nm).isSome ((2,(BV mi nm).getD 0,0,0,0,0):AJ) (3,(BV mr nm).getD 0,0,0,0,0)).1=_
       cases (BV mi nm).isSome <;> rfl)
    | (have e:∀ (b:Bool) (x y:Int) (k:Int),k≠2→k≠3→(cond b ((2,x,0,0,0,0):AJ) (3,y,0,0,0,0)).1≠k:=fun b x y k h2 h3=>by cases b <;> (intro hq; first | exact h2 hq.symm | exact h3 hq.symm)
       exact e (BV mi nm).isSome _ _ _ (by decide) (by decide))
    | (intro hq
       have:=congrArg (· == (0:Int)) hq
       revert hq
       decide)
    | (intro hq; simp [Ah,AX,D3,Ex.op] at hq)
def Cr (cs:List AJ) (code:List AJ) (n:Nat) (h h':Int):Prop:=∀ (post:List AJ) (a:List Int),n + code.length≤4294967280→n + code.length < a.length→a.getD n default=h→
  (∀ j,n < j→j < n + code.length→a.getD j default=-1)→(a.getD (n + code.length) default=-1∨a.getD (n + code.length) default=h')→∃ a',BQ cs (code++post) n a=BQ cs post (n + code.length) a'∧a'.length=a.length∧a'.getD (n + code.length) default=h'∧∀ j,n + code.length < j→a'.getD j default=a.getD j default
theorem KO:∀ (f:Nat) (x:Ex) (n:Nat),0 < f→0 < (AV mi ms mp mr f x n).length
  | f + 1,x,n,_=>by
    rw [AV]
    cases cond (x.op == 18) true (cond (x.op == 12) true (x.op == 13))
    · simp only [cond_false,List.length_append,List.length_singleton]; omega
    · simp only [cond_true,Cb,List.length_append,List.length_singleton]; omega
theorem Cr.app {cs c1 c2:List AJ} {n:Nat} {h h1 h2:Int} (hc1:0 < c1.length) (hc2:0 < c2.length) (b1:Cr cs c1 n h h1) (b2:Cr cs c2 (n + c1.length) h1 h2):Cr cs (c1++c2) n h h2:=fun post a hs hl ha hi he=>by
  rw [List.length_append] at hs hl hi he ⊢
  obtain ⟨a1,e1,l1,v1,k1⟩:=b1 (c2++post) a (by omega) (by omega) ha (fun j h1 h2=>hi j h1 (by omega)) (.inl (hi _ (by omega) (by omega)))
  obtain ⟨a2,e2,l2,v2,k2⟩:=b2 post a1 (by omega) (by omega) v1 (fun j h1 h2=>by rw [k1 j h1]; exact hi j (by omega) (by omega)) (by rw [k1 _ (by omega),Nat.add_assoc]; exact he)
  refine ⟨a2,?_,by omega,by rw [← Nat.add_assoc]; exact v2,fun j hj=>by rw [k2 j (by omega),k1 j (by omega)]⟩
  rw [List.append_assoc,e1,e2,Nat.add_assoc]
theorem Cr.one {cs:List AJ} {x:AJ} {n:Nat} {h h':Int} (h0:0≤h) (h1:h≤64) (ht:(Am x.1).1≤h) (ht0:0≤(Am x.1).1) (hp0:0≤(Am x.1).2) (hp1:(Am x.1).2≤1) (hh:h - (Am x.1).1 + (Am x.1).2=h') (h64:h'≤64) (h16:x.1≠16) (h17:x.1≠17):Cr cs [x] n h h':=fun post a hs hl ha hi he=>by
  rw [List.length_singleton] at hs hl hi he ⊢
  refine ⟨a.set (n + 1) h',?_,List.length_set,by rw [EB hl,if_pos rfl],fun j hj=>by rw [EB hl,if_neg (by omega)]⟩
  exact ay (by omega) hl ha h0 h1 ht ht0 hp0 hp1 hh h64 h16 h17 he
theorem Cr.branch {cs c0 c1 c2:List AJ} {n:Nat} {h:Int} (h0:0≤h) (h1:h + 1≤64) (hc0:0 < c0.length) (hc1:0 < c1.length) (hc2:0 < c2.length) (b0:Cr cs c0 n h (h + 1)) (b1:Cr cs c1 (n + c0.length + 1) h (h + 1)) (b2:Cr cs c2 (n + c0.length + 1 + c1.length + 1) h (h + 1)) :
    Cr cs (c0++[(17,((n + c0.length + 1 + c1.length + 1:Nat):Int),0,0,0,0)]++c1++[(16,((n + c0.length + 1 + c1.length + 1 + c2.length:Nat):Int),0,0,0,0)]++c2) n h (h + 1):=fun post a hs hl ha hi he=>by
  simp only [List.length_append,List.length_singleton] at hs hl hi he ⊢
  obtain ⟨a1,e1,l1,v1,k1⟩:=b0 ([(17,((n + c0.length + 1 + c1.length + 1:Nat):Int),0,0,0,0)]++c1++[(16,((n + c0.length + 1 + c1.length + 1 + c2.length:Nat):Int),0,0,0,0)]++c2++post) a (by omega) (by omega) ha (fun j h1 h2=>hi j h1 (by omega)) (.inl (hi _ (by omega) (by omega)))
  have e2:=Vp (cs:=cs) (tl:=c1++[(16,((n + c0.length + 1 + c1.length + 1 + c2.length:Nat):Int),0,0,0,0)]++c2++post) (i:=n + c0.length) (a:=a1) (h:=h + 1) (L:=n + c0.length + 1 + c1.length + 1) (by omega) (by omega) (by omega) (by omega) v1 (by omega) (by omega) rfl (by rw [k1 _ (by omega)]; exact hi _ (by omega) (by omega)) (by rw [k1 _ (by omega)]; exact hi _ (by omega) (by omega))
  rw [Int.add_sub_cancel] at e2
  generalize hA:(a1.set (n + c0.length + 1) h).set (n + c0.length + 1 + c1.length + 1) h=a2 at e2
  have l2:a2.length=a.length:=by rw [← hA,List.length_set,List.length_set]; exact l1
  have g2:∀ j,a2.getD j default=if n + c0.length + 1 + c1.length + 1=j then h else if n + c0.length + 1=j then h else a1.getD j default:=fun j=>by
    rw [← hA,EB (by rw [List.length_set]; omega),EB (by omega)]
  clear hA
  obtain ⟨a3,e3,l3,v3,k3⟩:=b1 ([(16,((n + c0.length + 1 + c1.length + 1 + c2.length:Nat):Int),0,0,0,0)]++c2++post) a2 (by omega) (by omega) (by rw [g2,if_neg (by omega),if_pos rfl]) (fun j h1 h2=>by rw [g2,if_neg (by omega),if_neg (by omega),k1 j (by omega)]; exact hi j (by omega) (by omega)) (.inl (by rw [g2,if_neg (by omega),if_neg (by omega),k1 _ (by omega)]; exact hi _ (by omega) (by omega)))
  have e4:=az (cs:=cs) (tl:=c2++post) (i:=n + c0.length + 1 + c1.length) (a:=a3) (h:=h + 1) (M:=n + c0.length + 1 + c1.length + 1 + c2.length) (by omega) (by omega) v3 (by omega) (by omega) rfl (by
    rw [k3 _ (by omega),g2,if_neg (by omega),if_neg (by omega),k1 _ (by omega),show n + c0.length + 1 + c1.length + 1 + c2.length=n + (c0.length + 1 + c1.length + 1 + c2.length) by omega]
    exact he)
  obtain ⟨a5,e5,l5,v5,k5⟩:=b2 post (a3.set (n + c0.length + 1 + c1.length + 1 + c2.length) (h + 1)) (by omega) (by rw [List.length_set]; omega) (by rw [EB (by omega),if_neg (by omega),k3 _ (by omega),g2,if_pos rfl])
    (fun j h1 h2=>by rw [EB (by omega),if_neg (by omega),k3 _ (by omega),g2,if_neg (by omega),if_neg (by omega),k1 _ (by omega)]; exact hi _ (by omega) (by omega)) (.inr (by rw [EB (by omega),if_pos rfl]))
  have hend:n + c0.length + 1 + c1.length + 1 + c2.length=n + (c0.length + 1 + c1.length + 1 + c2.length):=by omega
  refine ⟨a5,?_,by rw [l5,List.length_set]; omega,by rw [← hend]; exact v5,fun j hj=>by rw [k5 j (by omega),EB (by omega),if_neg (by omega),k3 _ (by omega),g2,if_neg (by omega),if_neg (by omega),k1 _ (by omega)]⟩
  rw [← hend,← e5,← e4]
  simp only [List.append_assoc,List.singleton_append,List.cons_append,List.nil_append] at e1 e2 e3 ⊢
  rw [e1,e2,e3]
theorem Cr.cast {cs c c':List AJ} {n n':Nat} {h h':Int} (b:Cr cs c n h h') (hc:c=c') (hn:n=n'):Cr cs c' n' h h':=by subst hc; subst hn; exact b
theorem QX {cs:List AJ} {v:Int} {n:Nat} {h:Int} (h0:0≤h) (h1:h + 1≤64):Cr cs [AX v] n h (h + 1):=
  Cr.one h0 (by omega) (show (0:Int)≤h from h0) (show (0:Int)≤0 by decide) (show (0:Int)≤1 by decide) (show (1:Int)≤1 by decide) (show h - 0 + 1=h + 1 by omega) h1 (show (1:Int)≠16 by decide) (show (1:Int)≠17 by decide)
theorem M1 {cs:List AJ} {f:Nat} (ih:∀ (x:Ex) (n:Nat) (h:Int),(∃ q,EY x q=true)→x.height≤f→0≤h→h + f≤64→Cr cs (AV mi ms mp mr f x n) n h (h + 1)) :
    ∀ (ks:List Ex) (q:Int) (n:Nat) (h:Int),EF ks q=true→Ex.heights ks≤f→0≤h→h + f + ks.length≤65→0 < ks.length→Cr cs (EW (AV mi ms mp mr f) ks n) n h (h + ks.length)∧0 < (EW (AV mi ms mp mr f) ks n).length
  | [],_,_,_,_,_,_,_,hl=>absurd hl (Nat.lt_irrefl 0)
  | k :: ks,q,n,h,hv,hh,h0,h64,_=>by
    rw [Ex.heights] at hh
    rw [List.length_cons] at h64 ⊢
    have hv1:EY k q=true∧EF ks q=true:=by
      rw [EF] at hv
      cases h:EY k q <;> rw [h] at hv
      · cases hv
      · exact ⟨rfl,hv⟩
    have hf:0 < f:=by
      cases k with
      | mk=>rw [Ex.height] at hh; omega
    have b1:=ih k n h ⟨q,hv1.1⟩ (by omega) h0 (by omega)
    have p1:=KO mi ms mp mr f k n hf
    rw [EW]
    refine ⟨?_,by rw [List.length_append]; omega⟩
    cases ks with
    | nil=>rw [EW,List.append_nil]; exact b1
    | cons k2 ks=>
      obtain ⟨b2,p2⟩:=M1 ih (k2 :: ks) q (n + (AV mi ms mp mr f k n).length) (h + 1) hv1.2 (by omega) (by omega) (by omega) (by simp)
      have:=b1.app p1 p2 b2
      rw [show h + 1 + ((k2 :: ks).length:Int)=h + (((k2 :: ks).length + 1:Nat):Int) by omega] at this
      exact this
theorem Yp {ks:List Ex} {q:Int}:∀ {i:Nat},EF ks q=true→i < ks.length→EY (ks.getD i default) q=true:=by
  induction ks with
  | nil=>intro i _ h; exact absurd h (Nat.not_lt_zero _)
  | cons k ks ih=>
    intro i hv hi
    rw [EF] at hv
    cases h:EY k q <;> rw [h] at hv
    · cases hv
    · cases i with
      | zero=>exact h
      | succ i=>exact ih hv (by rw [List.length_cons] at hi; omega)
theorem SE:∀ {ks:List Ex} {i:Nat},i < ks.length→(ks.getD i default).height≤Ex.heights ks
  | [],_,h=>absurd h (Nat.not_lt_zero _)
  | k :: ks,0,_=>by rw [Ex.heights]; exact Nat.le_max_left _ _
  | k :: ks,i + 1,h=>by
    rw [Ex.heights]
    exact Nat.le_trans (SE (ks:=ks) (i:=i) (by rw [List.length_cons] at h; omega)) (Nat.le_max_right _ _)
theorem N8 {cs:List AJ}:∀ (f:Nat) (x:Ex) (n:Nat) (h:Int),(∃ q,EY x q=true)→x.height≤f→0≤h→h + f≤64→Cr cs (AV mi ms mp mr f x n) n h (h + 1)
  | 0,.mk _ _ _ _ _ _ _ _ _ _,_,_,_,hh,_,_=>by rw [Ex.height] at hh; exact absurd hh (Nat.not_succ_le_zero _)
  | f + 1,.mk op num den mu hu du nm cnt md ks,n,h,⟨q,hv⟩,hh,h0,h64=>by
    have hv1:=II hv
    rw [Ex.height] at hh
    have hhf:Ex.heights ks≤f:=by omega
    have ih:=N8 (cs:=cs) f
    rw [AV]
    cases hb:cond (op == 18) true (cond (op == 12) true (op == 13)) with
    | false=>
      show Cr cs (cond (cond (op == 18) true (cond (op == 12) true (op == 13))) _ _) n h (h + 1)
      rw [hb]
      obtain ⟨he,h16,h17,hl2⟩:=Qo mi ms mp mr (num:=num) (den:=den) (mu:=mu) (hu:=hu) (du:=du) (nm:=nm) (cnt:=cnt) (md:=md) hv1.1 hb
      show Cr cs (EW (AV mi ms mp mr f) ks n++[_]) n h (h + 1)
      cases hks:ks with
      | nil=>
        rw [hks] at he h16 h17
        rw [EW,List.nil_append]
        exact Cr.one h0 (by omega) (by rw [he]; exact h0) (by rw [he]; exact Int.le_refl _) (by rw [he]; show (0:Int)≤1; decide) (by rw [he]; show (1:Int)≤1; decide) (by rw [he]; show h - 0 + 1=h + 1; omega) (by omega) h16 h17
      | cons k kt=>
        have hf1:1≤f:=by
          have:=hhf
          rw [hks,Ex.heights] at this
          cases k with
          | mk=>rw [Ex.height] at this; omega
        rw [← hks]
        have hpos:0 < ks.length:=by rw [hks]; simp
        obtain ⟨b1,p1⟩:=M1 mi ms mp mr ih ks (q - 1) n h hv1.2 hhf h0 (by omega) hpos
        exact b1.app p1 (by simp) (Cr.one (by omega) (by omega) (by rw [he]; show (ks.length:Int)≤h + ks.length; omega) (by rw [he]; show (0:Int)≤ks.length; omega) (by rw [he]; show (0:Int)≤1; decide) (by rw [he]; show (1:Int)≤1; decide) (by rw [he]; show h + (ks.length:Int) - ks.length + 1=h + 1; omega) (by omega) h16 h17)
    | true=>
      show Cr cs (cond (cond (op == 18) true (cond (op == 12) true (op == 13))) _ _) n h (h + 1)
      rw [hb]
      have hop:(op=18∧ks.length=3)∨(op=12∧ks.length=2)∨(op=13∧ks.length=2):=by
        have h1:=hv1.1
        simp only [Bool.cond_eq_ite,beq_iff_eq] at hb
        split at hb
        · rename_i h; subst h; have e:(ks.length:Int)=3:=h1; omega
        · split at hb
          · rename_i h; subst h; have e:(ks.length:Int)=2:=h1; omega
          · have h:op=13:=by simpa using hb
            subst h; have e:(ks.length:Int)=2:=h1; omega
      have kid:∀ i,i < ks.length→∀ (n:Nat),Cr cs (AV mi ms mp mr f (ks.getD i default) n) n h (h + 1)∧0 < (AV mi ms mp mr f (ks.getD i default) n).length:=fun i hi n=>
        have hg:=SE hi
        ⟨ih _ _ _ ⟨q - 1,Yp hv1.2 hi⟩ (by omega) h0 (by omega),KO mi ms mp mr f _ n (by
          have:0 < (ks.getD i default).height:=by
            cases ks.getD i default with
            | mk=>rw [Ex.height]; omega
          omega)⟩
      rcases hop with ⟨rfl,hl⟩ | ⟨rfl,hl⟩ | ⟨rfl,hl⟩
      · exact (Cr.branch h0 (by omega) (kid 0 (by omega) n).2 (kid 1 (by omega) _).2 (kid 2 (by omega) _).2 (kid 0 (by omega) n).1 (kid 1 (by omega) _).1 (kid 2 (by omega) _).1)
      · exact (Cr.branch h0 (by omega) (kid 0 (by omega) n).2 (kid 1 (by omega) _).2 (show 0 < [AX 0].length from Nat.one_pos) (kid 0 (by omega) n).1 (kid 1 (by omega) _).1 (QX h0 (by omega) (v:=0)))
      · exact (Cr.branch h0 (by omega) (kid 0 (by omega) n).2 (show 0 < [AX 1].length from Nat.one_pos) (kid 1 (by omega) _).2 (kid 0 (by omega) n).1 (QX h0 (by omega) (v:=1)) (kid 1 (by omega) _).1)
end
theorem bA (cs:List AJ):CL cs=BQ cs cs 0 ((List.replicate (cs.length + 1) (-1)).set 0 0):=by
  have go:∀ (m:Nat) (i:Nat) (a:List Int),a.length=i + m→(∀ j,j < i→a.getD j default=-1)→C7 cs (List.replicate m 0) i a=BQ cs cs 0 ((List.replicate (i + m) (-1)).set 0 0):=by
    intro m
    induction m with
    | zero=>
      intro i a hl ha
      rw [List.replicate_zero,C7]
      congr 2
      refine List.ext_getElem (by rw [List.length_replicate,hl]) fun j h1 h2=>?_
      have:=ha j (by omega)
      rw [List.getD_eq_getElem?_getD,List.getElem?_eq_getElem h1] at this
      rw [List.getElem_replicate]
      exact this
    | succ m ih=>
      intro i a hl ha
      rw [List.replicate_succ,C7,ih (i + 1) (a.set i (-1)) (by rw [List.length_set]; omega) (fun j hj=>by
        rw [EB (by omega)]
        split
        · rfl
        · exact ha j (by omega)),Nat.add_right_comm i 1 m,← Nat.add_assoc]
  have:=go (cs.length + 1) 0 (List.replicate (cs.length + 1) 0) (by rw [List.length_replicate]; omega) (fun j hj=>absurd hj (Nat.not_lt_zero _))
  rw [Nat.zero_add] at this
  exact this
theorem Yh {cs:List AJ} (hc:0 < cs.length) (hl:cs.length≤4294967280) (h:Cr cs cs 0 0 1):CL cs=true:=by
  rw [bA]
  have hrep:∀ j,j≤cs.length→0 < j→((List.replicate (cs.length + 1) (-1:Int)).set 0 0).getD j default=-1:=fun j hj h0=>by
    rw [EB (by rw [List.length_replicate]; omega),if_neg (by omega),List.getD_eq_getElem?_getD,List.getElem?_replicate,if_pos (by omega)]
    rfl
  obtain ⟨a',e,_,v,_⟩:=h [] ((List.replicate (cs.length + 1) (-1)).set 0 0) (by omega) (by rw [List.length_set,List.length_replicate]; omega) (by rw [EB (by rw [List.length_replicate]; omega),if_pos rfl]) (fun j h1 h2=>hrep j (by omega) h1) (.inl (hrep _ (by omega) (by omega)))
  rw [List.append_nil] at e
  rw [e,BQ]
  rw [Nat.zero_add] at v
  rw [v]
  rfl
theorem Q1 (mi ms mp mr:List (List UInt8×Int)) (x:Ex) (hv:∃ q,EY x q=true) (hh:x.height≤64) (hl:(AV mi ms mp mr x.height x 0).length≤4294967280):CL (AV mi ms mp mr x.height x 0)=true:=
  Yh (KO mi ms mp mr _ x 0 (by cases x with | mk=>rw [Ex.height]; omega)) hl (N8 mi ms mp mr x.height x 0 0 hv (Nat.le_refl _) (Int.le_refl _) (by omega))
end Go.Proofs.YtmcpjkcggfmcmaaGreatDoor
namespace Go.Proofs.YtmcpjkcggfmcmaaGreatDoor
noncomputable section
open Go.RowKit
set_option maxRecDepth 100000
set_option maxHeartbeats 1000000
def Ev:Nat→Ex
 | 0=>.mk 3 0 0 0 0 0 [97] 0 0 []
 | n + 1=>.mk 5 0 0 0 0 0 [] 0 0 [Ev n,Ev n]
abbrev Cf (m:Nat) (A:Option Addr) (c:Nat):List Value:=[.int .i64 (Ev m).op,.int .i64 0,.int .i64 0,.int .i64 0,.int .i64 0,.int .i64 0,.string ⟨⟨(Ev m).nm⟩⟩,.int .i64 0,.int .i64 0,.slice A (Ev m).ks.length c]
theorem fD (m:Nat) (A:Option Addr) (c:Nat):Cf m A c=Bo (Ev m) A c:=by cases m <;> rfl
def DK:List Value:=[.int .i64 0,.int .i64 0,.int .i64 0,.int .i64 0,.int .i64 0,.int .i64 0,.string ⟨⟨[]⟩⟩,.int .i64 0,.int .i64 0,.slice none 0 0]
theorem SH {S:Nat→Prop} {w:World} {m:Nat} {A:Option Addr} {c:Nat} {ks:List (List Value)} (h1:Dc S w (Ev m).ks ks) (h2:CU S w 10 A ks):De S w (Ev m) (Cf m A c):=by
 cases m with
 | zero=>exact ⟨A,c,ks,rfl,h1,h2⟩
 | succ m=>exact ⟨A,c,ks,rfl,h1,h2⟩
noncomputable def RC:Code:=Tryz.f7.body.getD .skip
def UW:List Item:=AB 60 [.code RC]
def UV:List Item:=AB 60 (A4 UW)
def oe:List Item:=AB 60 (AL UV)
theorem Vi (n:Nat) (hn:n≤1000) (w:World):Calls Tryz.prog 7 ([.int .i64 (n:Int)]:List Value).toArray w fun e w'=>∃ (A:Option Addr) (c:Nat),e=.returned (.agg ⟨Bo (Ev n) A c⟩)∧rowsEx w' A (Ev n).ks∧Below w.heap.size w w':=by
 refine Ff (args:=[.int .i64 (n:Int)]) (fn:=Tryz.f7) (c:=RC) (n:=16) ?_
 have B:Below w.heap.size w w:=Below.refl _ _
 have H:AY w.heap.size w (List.map Th.ent []++[]):=AY.nil (Nat.le_refl _)
 refine Bi 60 ([.code RC]) w.heap.size [] [(1,0)] UW [(0,.int .i64 (n:Int)),(2,.pointer (some ⟨w.heap.size,0,none⟩)),(3,.pointer (some ⟨w.heap.size + 1,0,none⟩)),(4,.int .i64 ((0:Nat):Int))] (w.heap.size + 2) [⟨w.heap.size,0,DK,32,true⟩,⟨w.heap.size + 1,0,Cf 0 none 0,32,true⟩] (H.lies (M:=[])) fun w1 E1 hL1 hK1=>?_
 have Z1:w1.heap.size=w.heap.size + 2:=hL1.sat.size
 replace B:=B.trans (H.keptB (M:=[]) hK1)
 replace H:AY w.heap.size w1 (List.map Th.ent [⟨w.heap.size,0,DK,32,true⟩,⟨w.heap.size + 1,0,Cf 0 none 0,32,true⟩]++[]):=H.run (M:=[]) (M':=[⟨w.heap.size,0,DK,32,true⟩,⟨w.heap.size + 1,0,Cf 0 none 0,32,true⟩]) hL1 hK1 rfl
 refine Bj (by kernel_rfl) (fun E wx=>∃ (m:Nat) (A:Option Addr) (c:Nat) (ks:List (List Value)) (E0:Nat→Value),m≤n∧E=CX E0 [(0,.int .i64 (n:Int)),(2,.pointer (some ⟨w.heap.size,0,none⟩)),(3,.pointer (some ⟨w.heap.size + 1,0,none⟩)),(4,.int .i64 (m:Int))]∧Dc (fun g=>g≠w.heap.size∧g≠w.heap.size + 1) wx (Ev m).ks ks∧CU (fun g=>g≠w.heap.size∧g≠w.heap.size + 1) wx 10 A ks∧Below w.heap.size w wx∧w.heap.size + 2≤wx.heap.size∧
  AY w.heap.size wx (List.map Th.ent [⟨w.heap.size,0,DK,32,true⟩,⟨w.heap.size + 1,0,Cf m A c,32,true⟩]++[])) (fun E _=>n - AQ (E 4)) ⟨0,none,0,[],E1,Nat.zero_le _,rfl,rfl,.inl rfl,B,by omega,H⟩ ?_
 clear B H
 rintro E wx ⟨m,A,c,ks,E0,hm,rfl,hks,hrow,B,hsz,H⟩ again
 refine Bi 60 (A4 UW) wx.heap.size [⟨w.heap.size,0,DK,32,true⟩,⟨w.heap.size + 1,0,Cf m A c,32,true⟩] [] UV [(0,.int .i64 (n:Int)),(2,.pointer (some ⟨w.heap.size,0,none⟩)),(3,.pointer (some ⟨w.heap.size + 1,0,none⟩)),(4,.int .i64 (m:Int)),(8,.bool (decide ((m:Int) < (n:Int))))] wx.heap.size [⟨w.heap.size,0,DK,32,true⟩,⟨w.heap.size + 1,0,Cf m A c,32,true⟩] (H.lies (M:=[⟨w.heap.size,0,DK,32,true⟩,⟨w.heap.size + 1,0,Cf m A c,32,true⟩])) fun w2 E2 hL2 hK2=>?_
 have Z2:w2.heap.size=wx.heap.size:=hL2.sat.size
 have hkeep:∀ (u u':World) (_:Dh (List.map (·.id) [(⟨w.heap.size,0,DK,32,true⟩:BM),⟨w.heap.size + 1,0,Cf m A c,32,true⟩]) u.heap.size u u'),∀ g,(g≠w.heap.size∧g≠w.heap.size + 1)→g < u.heap.size→(g≠w.heap.size∧g≠w.heap.size + 1)∧u'.heap[g]?=u.heap[g]?:=fun u u' k g hg hl=>⟨hg,k.block g hl (by simp; exact hg)⟩
 replace hks:=Dc.keep hK2.size (hkeep wx w2 hK2) _ _ hks
 replace hrow:=CU.keep hrow hK2.size (hkeep wx w2 hK2)
 replace B:=B.trans (H.keptB (M:=[⟨w.heap.size,0,DK,32,true⟩,⟨w.heap.size + 1,0,Cf m A c,32,true⟩]) hK2)
 replace H:AY w.heap.size w2 (List.map Th.ent [⟨w.heap.size,0,DK,32,true⟩,⟨w.heap.size + 1,0,Cf m A c,32,true⟩]++[]):=H.run (M:=[⟨w.heap.size,0,DK,32,true⟩,⟨w.heap.size + 1,0,Cf m A c,32,true⟩]) (M':=[⟨w.heap.size,0,DK,32,true⟩,⟨w.heap.size + 1,0,Cf m A c,32,true⟩]) hL2 hK2 rfl
 refine DB (decide ((m:Int) < (n:Int))) (fun c3=>?_) (fun c3=>?_)
 ·have hlt:m < n:=by have:=of_decide_eq_true c3; omega
  refine Bi 60 (AG UV) w2.heap.size [⟨w.heap.size,0,DK,32,true⟩,⟨w.heap.size + 1,0,Cf m A c,32,true⟩] [(1,0),(1,0),(1,0)] (Ai UW) [(0,.int .i64 (n:Int)),(2,.pointer (some ⟨w.heap.size,0,none⟩)),(3,.pointer (some ⟨w.heap.size + 1,0,none⟩)),(4,.int .i64 (IntKind.i64.wrap ((m:Int) + 1)))] (w2.heap.size + 1) [⟨w.heap.size,0,DK,32,true⟩,⟨w.heap.size + 1,0,Cf (m + 1) (some ⟨w2.heap.size,0,none⟩) 2,32,true⟩,⟨w2.heap.size,0,Cf m A c++Cf m A c,32,true⟩] (H.lies (M:=[⟨w.heap.size,0,DK,32,true⟩,⟨w.heap.size + 1,0,Cf m A c,32,true⟩])) fun w4 E4 hL4 hK4=>?_
  have Z4:w4.heap.size=w2.heap.size + 1:=hL4.sat.size
  replace hks:=Dc.keep hK4.size (hkeep w2 w4 hK4) _ _ hks
  replace hrow:=CU.keep hrow hK4.size (hkeep w2 w4 hK4)
  replace B:=B.trans (H.keptB (M:=[⟨w.heap.size,0,DK,32,true⟩,⟨w.heap.size + 1,0,Cf m A c,32,true⟩]) hK4)
  replace H:AY w.heap.size w4 (List.map Th.ent [⟨w.heap.size,0,DK,32,true⟩,⟨w.heap.size + 1,0,Cf (m + 1) (some ⟨w2.heap.size,0,none⟩) 2,32,true⟩,⟨w2.heap.size,0,Cf m A c++Cf m A c,32,true⟩]++[]):=H.run (M:=[⟨w.heap.size,0,DK,32,true⟩,⟨w.heap.size + 1,0,Cf m A c,32,true⟩]) (M':=[⟨w.heap.size,0,DK,32,true⟩,⟨w.heap.size + 1,0,Cf (m + 1) (some ⟨w2.heap.size,0,none⟩) 2,32,true⟩,⟨w2.heap.size,0,Cf m A c++Cf m A c,32,true⟩]) hL4 hK4 rfl
  have hg:=H.goods (M:=[⟨w.heap.size,0,DK,32,true⟩,⟨w.heap.size + 1,0,Cf (m + 1) (some ⟨w2.heap.size,0,none⟩) 2,32,true⟩,⟨w2.heap.size,0,Cf m A c++Cf m A c,32,true⟩]) ⟨w2.heap.size,0,Cf m A c++Cf m A c,32,true⟩ (by simp)
  have hr:=D2 (b:=w2.heap.size) (n:=10) (t:=32) (rs:=[Cf m A c,Cf m A c]) (by simp) (by simpa using hg)
  have hr2:CU (fun g=>g≠w.heap.size∧g≠w.heap.size + 1) w4 10 (some ⟨w2.heap.size,0,none⟩) [Cf m A c,Cf m A c]:=by
   rcases hr with hr | ⟨g,off,h1,_,h3,h4⟩
   ·cases hr
   ·obtain ⟨rfl,rfl⟩:w2.heap.size=g∧0=off:=by
     simp only [Option.some.injEq,Addr.mk.injEq] at h1
     exact ⟨h1.1,h1.2.1⟩
    exact .inr ⟨w2.heap.size,0,rfl,⟨by omega,by omega⟩,h3,h4⟩
  rw [Bf m (by omega)]
  refine again _ _ ⟨m + 1,some ⟨w2.heap.size,0,none⟩,2,[Cf m A c,Cf m A c],E4,hlt,rfl,⟨_,_,rfl,SH hks hrow,_,_,rfl,SH hks hrow,rfl⟩,hr2,B,by omega,H.pick [0,1] rfl (by decide)⟩ ?_
  show n - AQ (.int .i64 ((m + 1:Nat):Int)) < n - AQ (.int .i64 (m:Int))
  simp only [AQ]
  omega
 ·have hme:m=n:=by have:=of_decide_eq_false c3; omega
  subst hme
  refine Bi 60 (AL UV) w2.heap.size [⟨w.heap.size,0,DK,32,true⟩,⟨w.heap.size + 1,0,Cf m A c,32,true⟩] [(1,0),(0,0)] oe [(2,.pointer (some ⟨w.heap.size,0,none⟩))] w2.heap.size [⟨w.heap.size,0,Cf m A c,32,true⟩,⟨w.heap.size + 1,0,Cf m A c,32,true⟩] (H.lies (M:=[⟨w.heap.size,0,DK,32,true⟩,⟨w.heap.size + 1,0,Cf m A c,32,true⟩])) fun w4 E4 hL4 hK4=>?_
  replace hks:=Dc.keep (S':=CG) hK4.size (fun g hg hl=>⟨trivial,((hkeep w2 w4 hK4) g hg hl).2⟩) _ _ hks
  replace hrow:=CU.keep (S':=CG) hrow hK4.size (fun g hg hl=>⟨trivial,((hkeep w2 w4 hK4) g hg hl).2⟩)
  replace B:=B.trans (H.keptB (M:=[⟨w.heap.size,0,DK,32,true⟩,⟨w.heap.size + 1,0,Cf m A c,32,true⟩]) hK4)
  have G:=hL4.sat.good
  exact RP (fn:=Tryz.f7) (by kernel_rfl) (by kernel_rfl) ⟨0,[⟨w.heap.size,0,Cf m A c,32,true⟩,⟨w.heap.size + 1,0,Cf m A c,32,true⟩],(0,0),[]⟩ G (.agg ⟨Cf m A c⟩) (by kernel_rfl) (by kernel_rfl) ⟨A,c,by rw [fD],⟨ks,hks,hrow⟩,B⟩
end
end Go.Proofs.YtmcpjkcggfmcmaaGreatDoor

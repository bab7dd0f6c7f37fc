/-
  Part 39 of a proof: contracts of functions.
-/
import Derived.Test.YtkjbdagicjbjjaaGreatTf38
import Derived.Test.YtkjbdagicjbjjaaGreatTf29
import Derived.Test.YtkjbdagicjbjjaaGreatTf36
set_option linter.all false
namespace Go.Proofs.YtkjbdagicjbjjaaGreat
noncomputable section
open Go.RowKit
set_option maxRecDepth 100000
set_option maxHeartbeats 1000000
theorem FR.ok {b:Nat} {ns:List Int} {w:World}:∀ e w',FR b ns w e w'→BW b ns w'∧CE b w w':=fun _ _ ⟨_,_,_,a,h2⟩=>⟨a,h2⟩
attribute [local irreducible] A8 BL AC AD AF Ao AY AL Aq Bb Cn BR Dx Cm BK At Fr
noncomputable def X4:Code:=Tryz.f26.body.getD .skip
def ox:=AA 60 [.code X4]
def ZN:=AA 60 (AC ox)
def zt:=AA 60 (AD ZN)
def zr:=AA 60 (AF ZN)
theorem KO (b:Nat) (ns:List Int) (w:World) (o:BW b ns w):Calls Tryz.prog 26 ([BY b]:List Value).toArray w (FR b ns w):=by
 refine AR (args:=[BY b]) (fn:=Tryz.f26) (c:=X4) (n:=14) ?_
 obtain ⟨w0,d,i⟩:=Wk.tape o
 have f:=i.B
 refine Af ox [⟨w.heap.size,0,[AI 0,AI 0],41,true⟩] i [] fun l h=>?_
 refine BE h d 0 rfl (args:=[BY b,AI 121]) (BM b ns 121 l (h.tapeOk d 0 rfl) (by omega) (by omega)) BQ.ok fun e s m q=>?_
 obtain ⟨k,t,rfl,_,_⟩:=m
 refine ⟨_,rfl,?_⟩
 refine AB ZN q [] fun r g=>?_
 refine AG (!(Int.tmod (IntKind.i64.wrap ((k:Int) - 20)) 2 == 0)) (fun p=>?_) (fun p=>?_)
 ·refine Aj zt g [(0,0)] fun j a=>?_
  exact AJ a (0,0) (.agg ⟨[AI (IntKind.i64.wrap ((k:Int) - 20)),AI 2]⟩) ⟨_,_,rfl,a.out d f⟩
 ·refine Aj zr g [(0,0)] fun j a=>?_
  exact AJ a (0,0) (.agg ⟨[AI (IntKind.i64.wrap ((k:Int) - 20)),AI 1]⟩) ⟨_,_,rfl,a.out d f⟩
noncomputable def YO:Code:=Tryz.f10.body.getD .skip
def Z0:=AA 60 [.code YO]
def pp:=AA (Ak (Aa) 90 (AC Z0)) (AC Z0)
def AAk:=AA 60 (AC (AC pp))
def sZ:List (List UInt8):=[[97],[114,50],[98],[114,52],[114,51],[114,49],[97],[104],[119]]
theorem nI (b:Nat) (ns:List Int) (w:World) (p:BW b ns w):Calls Tryz.prog 10 ([BY b]:List Value).toArray w fun e w'=>∃ s:List UInt8,s.length≤2∧e=.returned (.string ⟨⟨s⟩⟩)∧BW b ns w'∧CE b w w':=by
 refine AR (args:=[BY b]) (fn:=Tryz.f10) (c:=YO) (n:=8) ?_
 obtain ⟨w0,d,j⟩:=Wk.tape p
 have m:=j.B
 refine Af Z0 [⟨w.heap.size,0,[.string ⟨⟨[97]⟩⟩,.string ⟨⟨[114,50]⟩⟩,.string ⟨⟨[98]⟩⟩,.string ⟨⟨[114,52]⟩⟩,.string ⟨⟨[114,51]⟩⟩,.string ⟨⟨[114,49]⟩⟩,.string ⟨⟨[97]⟩⟩,.string ⟨⟨[104]⟩⟩,.string ⟨⟨[119]⟩⟩],9,true⟩] j [] fun l i=>?_
 refine BE i d 0 rfl (args:=[BY b,AI 9]) (BM b ns 9 l (i.tapeOk d 0 rfl) (by omega) (by omega)) BQ.ok fun e u o q=>?_
 obtain ⟨k,v,rfl,_,_⟩:=o
 refine ⟨_,rfl,?_⟩
 have a:k < 9:=by omega
 obtain ⟨s,hs⟩:∃ s,sZ[k]?=some s:=⟨_,List.getElem?_eq_getElem (show k < sZ.length from a)⟩
 have hl:s.length≤2:=by
  have hm:=List.mem_of_getElem? hs
  simp only [sZ,List.mem_cons,List.not_mem_nil,or_false] at hm
  rcases hm with rfl | rfl | rfl | rfl | rfl | rfl | rfl | rfl | rfl <;> decide
 refine Ae Aa pp q [] fun t h=>?_
 refine Au (g:=w.heap.size) (off:=0) (cap:=9) (sz:=1) (k:=k) (len:=9) (some 6) a Tryz.underlying65 ?_
 have hc:=GH (h.ent 0 rfl) k (.string ⟨⟨s⟩⟩) (by show (sZ.map fun s=>Value.string ⟨⟨s⟩⟩)[k]?=_; rw [List.getElem?_map,hs]; rfl)
 refine Dh 9 w.heap.size (0 + k * 1) (.string ⟨⟨s⟩⟩) (some 7) (by simpa using hc) ?_
 refine AB AAk h [] fun r f=>?_
 exact AJ f (0,0) (.string ⟨⟨s⟩⟩) ⟨s,hl,rfl,f.out d m⟩
abbrev KK (A:Option Addr) (c:Nat) (l:List DQ):Th:=Th.row 81 3 (fun e r=>r=F4 e) A c l
theorem Mo {n:Nat}:∀ (rs:List (List Value)) (k:Nat),(∀ r∈rs,r.length=n)→(rs.take k).flatten=rs.flatten.take (k * n)
 | [],k,_=>by simp
 | r :: rs,0,_=>by simp
 | r :: rs,k + 1,h=>by
  rw [List.take_succ_cons,List.flatten_cons,List.flatten_cons,Mo rs k fun r hr=>h r (by simp [hr]),Nat.succ_mul,Nat.add_comm,← h r (by simp),List.take_length_add_append]
theorem Ac.rowTake {α:Type} {b:Nat} {w:World} {L:List Th} {U:TypeId} {n:Nat} {f:α→List Value} {A:Option Addr} {c:Nat} {l:List α} (hn:∀ e,(f e).length=n) (h:Ac b w L) (i:Nat) (hi:L[i]?=some (Th.row U n (fun e r=>r=f e) A c l)) (k:Nat) (s:k≤l.length):Ac b w (L.set i (Th.row U n (fun e r=>r=f e) A c (l.take k))):=by
 obtain ⟨rs,hr,ho⟩:=h.all i _ hi
 have j:=Hj hr
 have d:(l.take k).length=k:=by rw [List.length_take]; omega
 have a:∀ r∈rs,r.length=n:=fun r hm=>by
  rw [j] at hm
  obtain ⟨e,_,rfl⟩:=List.mem_map.1 hm
  exact hn e
 refine h.set i hi (Nat.le_refl _) ⟨(l.take k).map f,Dj _,?_,?_⟩ (fun q p=>⟨(h.lo i _ hi q p).2,.inl p⟩) (fun _ _ _=>rfl)
 ·rw [List.map_take,← j,Mo rs k a,d,List.length_take,ho.1,Nat.min_eq_left (Nat.mul_le_mul_right _ s)]
 ·rw [List.map_take,← j,d,Mo rs k a]
  rcases ho.2 with ⟨m,h2⟩ | ⟨g,cap,o,m,h2,y,z,x,v,u⟩
  ·left
   simp only [Value.slice.injEq] at m
   obtain ⟨rfl,t,rfl⟩:=m
   exact ⟨by rw [show k=0 by omega],by omega⟩
  ·right
   simp only [Value.slice.injEq] at m
   obtain ⟨rfl,_,rfl⟩:=m
   refine ⟨g,c,o,rfl,h2,y,by omega,x,v,?_⟩
   rw [← u,List.take_take,Nat.min_eq_left (Nat.mul_le_mul_right _ s)]
noncomputable def YR:Code:=Tryz.f8.body.getD .skip
def p6:=AA 60 [.code YR]
def p5:=AA 60 (AC p6)
def pz:=AA 60 (AC p5)
def py:=AA 60 (AC pz)
def aI:=AA 60 (AC py)
def aH:=AA 60 (AD aI)
def SU:=AA (Ak (I2) 90 (AC aH)) (AC aH)
def aG:=AA (Ak (BS) 90 (AC SU)) (AC SU)
def AAp:=AA 60 (AC aG)
def aF:=AA 60 (AF aI)
def gW:=AA 60 (AD aF)
def T8:=AA 60 (AC gW)
def gV:=AA (Ak (Aa) 90 (AC T8)) (AC T8)
def T7:=AA 60 (AC gV)
def O9:=AA 60 (AF aF)
def T6:=AA (Ak (BS) 90 (AD O9)) (AD O9)
def u4:=AA 60 (AC T6)
def u3:=AA 60 (AF O9)
theorem dt (b:Nat) (ns:List Int) (w:World) (hT:BW b ns w):Calls Tryz.prog 8 ([BY b]:List Value).toArray w fun e w'=>∃ A c,∃ ins:List DQ,e=.returned (.slice A ins.length c)∧ins.length≤4∧(∀ x∈ins,x.1.length≤2)∧Ac (b + 1) w' [KK A c ins]∧BW b ns w'∧CE b w w':=by
 refine AR (args:=[BY b]) (fn:=Tryz.f8) (c:=YR) (n:=44) ?_
 obtain ⟨w0,d,K0⟩:=Wk.tape hT
 have hw:=K0.B
 refine AB p6 K0 [] fun w1 K1=>?_
 refine BE K1 d 0 rfl (args:=[BY b]) (KO b ns w1 (K1.tapeOk d 0 rfl)) FR.ok fun e w1 hq K1=>?_
 obtain ⟨m,t,rfl,_,_⟩:=hq
 refine ⟨_,rfl,?_⟩
 refine AB p5 K1 [] fun w2 K2=>?_
 refine BE K2 d 0 rfl (args:=[BY b]) (KO b ns w2 (K2.tapeOk d 0 rfl)) FR.ok fun e w2 hq K2=>?_
 obtain ⟨l,s,rfl,_,_⟩:=hq
 refine ⟨_,rfl,?_⟩
 refine AB pz K2 [] fun u K3=>?_
 refine BE K3 d 0 rfl (args:=[BY b,AI 2]) (BM b ns 2 _ (K3.tapeOk d 0 rfl) (by omega) (by omega)) BQ.ok fun e u hq K3=>?_
 obtain ⟨p,g0,rfl,_,_⟩:=hq
 refine ⟨_,rfl,?_⟩
 refine Af py [⟨u.heap.size,0,[By [104],AI m,AI t,By [103],AI l,AI s,By [102],AI (p:Int),AI 1],81,true⟩] K3 [] fun w4 K4=>?_
 refine BE K4 d 0 rfl (args:=[BY b,AI 10]) (BM b ns 10 _ (K4.tapeOk d 0 rfl) (by omega) (by omega)) BQ.ok fun e w4 hq K4=>?_
 obtain ⟨k,hk,rfl,_,_⟩:=hq
 refine ⟨_,rfl,?_⟩
 refine AB aI K4 [] fun w5 K5=>?_
 have b0:∀ x∈([([104],m,t),([103],l,s),([102],(p:Int),1)]:List DQ),x.1.length≤2:=fun x hx=>by
  simp only [List.mem_cons,List.not_mem_nil,or_false] at hx
  rcases hx with rfl | rfl | rfl <;> simp
 refine AG ((k:Int) == 7) (fun c1=>?_) (fun c1=>?_)
 ·refine AB aH K5 [] fun w6 K6=>?_
  refine BE K6 d 0 rfl (args:=[BY b,AI 3]) (BM b ns 3 _ (K6.tapeOk d 0 rfl) (by omega) (by omega)) BQ.ok fun e w6 hq K6=>?_
  obtain ⟨q,hq,rfl,_,_⟩:=hq
  refine ⟨_,rfl,?_⟩
  have a0:q≤3:=by omega
  have KR:=K6.entRows (n:=3) 0 (fun e r=>r=F4 e) [([104],m,t),([103],l,s),([102],(p:Int),1)] ([([104],m,t),([103],l,s),([102],(p:Int),1)].map F4) (Dj _) rfl rfl (by simp) rfl
  refine Ae I2 SU KR [] fun w7 K7=>?_
  have K8:=K7.put 2 (by simp) (Below.refl _ _) (K7.H.rowTake (f:=F4) (n:=3) (fun _=>rfl) (K7.ix 2) (K7.at 2 rfl) q a0)
  refine C4 (Rg (o:=Br SU) (len:=3) (cap:=3) (i:=q) (a:=IN u.heap.size) (x:=.tmp 19) (h:=.tmp 21) (by kernel_rfl) Tryz.underlying33 (by decide) (by kernel_rfl) (by kernel_rfl) a0 (fun a ha=>by obtain rfl:=Option.some.inj ha; rfl)) ?_
  have e0:(([([104],m,t),([103],l,s),([102],(p:Int),1)]:List DQ).take q).length=q:=by rw [List.length_take]; exact Nat.min_eq_left a0
  refine AU [(22,.slice (IN u.heap.size) q 3)] fun E8=>?_
  rw [← e0]
  generalize hli:([([104],m,t),([103],l,s),([102],(p:Int),1)]:List DQ).take q=li at K8 e0 ⊢
  refine CA BS aG [⟨w7.heap.size,0,[By [114,49],AI 9,AI 1],81,true⟩] K8 [] fun w9 K9=>?_
  refine Cg K9.H (K9.ix 2) (K9.at 2 rfl) ([114,49],9,1) (F4 ([114,49],9,1)) rfl (w7.heap.size) (K9.ent 0 rfl) (Br aG) (by kernel_rfl) (.tmp 22) (.tmp 25) 33 (by kernel_rfl) (by kernel_rfl) (by kernel_rfl) (by decide) (by kernel_rfl) (by kernel_rfl) rfl rfl (by omega) fun A2 c2 y Hn d0=>?_
  have j:=K9.put 2 (by simp) d0 Hn
  refine AB AAp j [] fun wz Kz=>?_
  have v:Wk w0 wz [] [BH w0 b ns,Bj b w,KK A2 c2 (li++[([114,49],9,1)])] []:=Kz.pk [] [0,1,2]
  refine AJ Kz (0,0) (.slice A2 (li++[([114,49],9,1)]).length c2) ⟨A2,c2,(li++[([114,49],9,1)]),rfl,by rw [List.length_append,List.length_singleton]; omega,?_,v.fin d,v.out d hw⟩
  intro x hx
  rcases List.mem_append.1 hx with hx | hx
  ·rw [← hli] at hx; exact b0 x (List.mem_of_mem_take hx)
  ·rw [List.mem_singleton.1 hx]; simp
 refine AB aF K5 [] fun w6 K6=>?_
 refine AG ((k:Int) == 8) (fun c2=>?_) (fun c2=>?_)
 ·refine AB gW K6 [] fun w7 K7=>?_
  refine BE K7 d 0 rfl (args:=[BY b,AI 3]) (BM b ns 3 _ (K7.tapeOk d 0 rfl) (by omega) (by omega)) BQ.ok fun e w7 hq K7=>?_
  obtain ⟨q,hq,rfl,_,_⟩:=hq
  refine ⟨_,rfl,?_⟩
  have a0:q < 3:=by omega
  refine AB T8 K7 [] fun w8 K8=>?_
  refine BE K8 d 0 rfl (args:=[BY b]) (Mn b ns w8 (K8.tapeOk d 0 rfl)) FR.ok fun e w8 hq K8=>?_
  obtain ⟨z,df,rfl,_,_⟩:=hq
  refine ⟨_,rfl,?_⟩
  refine Ae Aa gV K8 [] fun w9 K9=>?_
  refine Au (g:=u.heap.size) (off:=0) (cap:=3) (sz:=3) (k:=q) (len:=3) (some 34) a0 Tryz.underlying33 ?_
  have c0:q=0∨q=1∨q=2:=by omega
  rcases c0 with rfl | rfl | rfl
  ·refine Af T7 [⟨u.heap.size,0,[By [104],AI z,AI df,By [103],AI l,AI s,By [102],AI (p:Int),AI 1],81,true⟩] K9 [(0,1)] fun y j=>?_
   have KR:=j.entRows (n:=3) 0 (fun e r=>r=F4 e) ([([104],z,df),([103],l,s),([102],(p:Int),1)]:List DQ) (([([104],z,df),([103],l,s),([102],(p:Int),1)]:List DQ).map F4) (Dj _) rfl rfl (by simp) rfl
   have v:Wk w0 y [] [BH w0 b ns,Bj b w,KK (IN u.heap.size) 3 ([([104],z,df),([103],l,s),([102],(p:Int),1)]:List DQ)] []:=KR.pk [] [0,1,2]
   refine AJ j (0,0) (.slice (IN u.heap.size) 3 3) ⟨IN u.heap.size,3,([([104],z,df),([103],l,s),([102],(p:Int),1)]:List DQ),rfl,by simp,?_,v.fin d,v.out d hw⟩
   intro x hx
   simp only [List.mem_cons,List.not_mem_nil,or_false] at hx
   rcases hx with rfl | rfl | rfl <;> simp
  ·refine Af T7 [⟨u.heap.size,0,[By [104],AI m,AI t,By [103],AI z,AI df,By [102],AI (p:Int),AI 1],81,true⟩] K9 [(0,4)] fun y j=>?_
   have KR:=j.entRows (n:=3) 0 (fun e r=>r=F4 e) ([([104],m,t),([103],z,df),([102],(p:Int),1)]:List DQ) (([([104],m,t),([103],z,df),([102],(p:Int),1)]:List DQ).map F4) (Dj _) rfl rfl (by simp) rfl
   have v:Wk w0 y [] [BH w0 b ns,Bj b w,KK (IN u.heap.size) 3 ([([104],m,t),([103],z,df),([102],(p:Int),1)]:List DQ)] []:=KR.pk [] [0,1,2]
   refine AJ j (0,0) (.slice (IN u.heap.size) 3 3) ⟨IN u.heap.size,3,([([104],m,t),([103],z,df),([102],(p:Int),1)]:List DQ),rfl,by simp,?_,v.fin d,v.out d hw⟩
   intro x hx
   simp only [List.mem_cons,List.not_mem_nil,or_false] at hx
   rcases hx with rfl | rfl | rfl <;> simp
  ·refine Af T7 [⟨u.heap.size,0,[By [104],AI m,AI t,By [103],AI l,AI s,By [102],AI z,AI df],81,true⟩] K9 [(0,7)] fun y j=>?_
   have KR:=j.entRows (n:=3) 0 (fun e r=>r=F4 e) ([([104],m,t),([103],l,s),([102],z,df)]:List DQ) (([([104],m,t),([103],l,s),([102],z,df)]:List DQ).map F4) (Dj _) rfl rfl (by simp) rfl
   have v:Wk w0 y [] [BH w0 b ns,Bj b w,KK (IN u.heap.size) 3 ([([104],m,t),([103],l,s),([102],z,df)]:List DQ)] []:=KR.pk [] [0,1,2]
   refine AJ j (0,0) (.slice (IN u.heap.size) 3 3) ⟨IN u.heap.size,3,([([104],m,t),([103],l,s),([102],z,df)]:List DQ),rfl,by simp,?_,v.fin d,v.out d hw⟩
   intro x hx
   simp only [List.mem_cons,List.not_mem_nil,or_false] at hx
   rcases hx with rfl | rfl | rfl <;> simp
 refine AB O9 K6 [] fun w7 K7=>?_
 have KR:=K7.entRows (n:=3) 0 (fun e r=>r=F4 e) [([104],m,t),([103],l,s),([102],(p:Int),1)] (([([104],m,t),([103],l,s),([102],(p:Int),1)]:List DQ).map F4) (Dj _) rfl rfl (by simp) rfl
 refine AG ((k:Int) == 9) (fun c3=>?_) (fun c3=>?_)
 ·refine CA BS T6 [⟨w7.heap.size,0,[By [104],AI 77,AI 1],81,true⟩] KR [] fun w9 K9=>?_
  refine Cg K9.H (K9.ix 2) (K9.at 2 rfl) ([104],77,1) (F4 ([104],77,1)) rfl (w7.heap.size) (K9.ent 0 rfl) (Br T6) (by kernel_rfl) (.tmp 38) (.tmp 41) 33 (by kernel_rfl) (by kernel_rfl) (by kernel_rfl) (by decide) (by kernel_rfl) (by kernel_rfl) rfl rfl (by simp) fun A2 c2 y Hn d0=>?_
  have j:=K9.put 2 (by simp) d0 Hn
  refine AB u4 j [] fun wz Kz=>?_
  have v:Wk w0 wz [] [BH w0 b ns,Bj b w,KK A2 c2 ([([104],m,t),([103],l,s),([102],(p:Int),1)]++[([104],77,1)]:List DQ)] []:=Kz.pk [] [0,1,2]
  refine AJ Kz (0,0) (.slice A2 ([([104],m,t),([103],l,s),([102],(p:Int),1)]++[([104],77,1)]:List DQ).length c2) ⟨A2,c2,([([104],m,t),([103],l,s),([102],(p:Int),1)]++[([104],77,1)]:List DQ),rfl,by simp,?_,v.fin d,v.out d hw⟩
  intro x hx
  rcases List.mem_append.1 hx with hx | hx
  ·exact b0 x hx
  ·rw [List.mem_singleton.1 hx]; simp
 ·skip
  refine AB u3 KR [] fun wz Kz=>?_
  have v:Wk w0 wz [] [BH w0 b ns,Bj b w,KK (IN u.heap.size) 3 ([([104],m,t),([103],l,s),([102],(p:Int),1)]:List DQ)] []:=Kz.pk [] [0,1,2]
  refine AJ Kz (0,0) (.slice (IN u.heap.size) ([([104],m,t),([103],l,s),([102],(p:Int),1)]:List DQ).length 3) ⟨(IN u.heap.size),3,([([104],m,t),([103],l,s),([102],(p:Int),1)]:List DQ),rfl,by simp,?_,v.fin d,v.out d hw⟩
  exact b0
end
end Go.Proofs.YtkjbdagicjbjjaaGreat

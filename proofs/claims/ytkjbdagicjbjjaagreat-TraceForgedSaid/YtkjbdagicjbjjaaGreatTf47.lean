/-
  Part 47 of a proof: contracts of functions.
-/
import Derived.Test.YtkjbdagicjbjjaaGreatTf46
set_option linter.all false
namespace Go.Proofs.YtkjbdagicjbjjaaGreat
noncomputable section
open Go.RowKit
set_option maxRecDepth 100000
set_option maxHeartbeats 1000000
attribute [local irreducible] A8 BL AC AD AF Ao AY AL Aq Bb Cn BR Dx Cm BK At Fr
def oe:=Ai 4 (AL NF)
def ZF:=AA 60 (AL oe)
def od:=Ai 5 (AD ZF)
def zj:=AA 60 (AL od)
def ZE:=AA 60 (AF ZF)
def SL:=AA (Ak (BS) 90 (AC ZE)) (AC ZE)
def SK:=AA (Ak (BS) 90 (AC SL)) (AC SL)
def ZD:=AA (Ak (BS) 90 (AC SK)) (AC SK)
def ZC:=AA 60 (AC ZD)
def SJ:=AA 60 (AL ZC)
def TM:=AA (Ak (Aa) 90 (AL SJ)) (AL SJ)
def fG:=AA (Ak (sg) 90 (AC TM)) (AC TM)
def fF:=Ai 11 (AC fG)
def uV:=AA 60 (AL fF)
theorem W0 {R:Ending→World→Prop} {b:Nat} {ns:List Int} {q w0 w6:World} {A:Option Addr} {c:Nat} {ds:List Df} {ins:List DQ} {pa:List Dn} {nm:List UInt8} {rA:Option Addr} {rc:Nat} {sl:List KD} {E:Nat→Value} {a:Int} (o1:-9223372036854775808≤a) (m1:a≤9223372036854775807) (h0:w0.heap.size=b) (hw:Below w0.heap.size w0 q) (l:KG b q A c ds) (i0:sl.map (·.1)=(Bm A4 ds 20464 3 ins pa nm).1)
  (K6:Wk w0 w6 [⟨q.heap.size,0,[By A4,.slice A ds.length c],27,true⟩] [BH w0 b ns,Bj b q,FT rA rc sl,Th.all (sl.map Gf)] []) (hR:∀ w',CE b q w'→R (.returned (.bool true)) w'):At Tryz.prog 3 R (AL NF) (Fr 118 (BC E [(1,AI a),(5,BY b),(6,BY (q.heap.size)),(7,AI 20464),(8,.slice rA sl.length rc),(9,AI (Bm A4 ds 20464 3 ins pa nm).2)])) w6:=by
 refine Am 4 oe K6 [] fun w7 K7=>?_
 refine Ap K7 (mem:=[]) [] [] (fun e' s=>by cases s) (fun sp m=>by cases m) fun w8 E8 K8=>?_
 refine AB ZF K8 [] fun w9 K9=>?_
 refine AG (cond (!((Bm A4 ds 20464 3 ins pa nm).2 == 0)) true ((sl.length:Int) == 0)) (fun hc=>?_) (fun hc=>?_)
 ·have m2:(!((Bm A4 ds 20464 3 ins pa nm).2 == 0))=true:=by
   cases h:(!((Bm A4 ds 20464 3 ins pa nm).2 == 0))
   ·rw [h] at hc
    have hl:sl.length=0:=by simpa using hc
    have h1:=(L5 (bz h)).2.1
    rw [← i0] at h1
    exact absurd (by rw [List.eq_nil_of_length_eq_zero hl]; rfl) h1
   ·rfl
  refine Am 5 od K9 [] fun a1 q0=>?_
  refine Ap q0 (mem:=[]) [] [⟨3,[],.bool true,(!((Bm A4 ds 20464 3 ins pa nm).2 == 0)) && true⟩] (fun e' s=>by cases s) (fun sp m=>?_) fun r0 k4 t0=>?_
  ·rw [List.mem_singleton.1 m]
   exact AV 11 [] [] (fun _=>by kernel_rfl) fun hc y j=>AN j (VO y)
  refine AB zj t0 [] fun z0 p0=>?_
  exact AJ p0 (0,0) (.bool (cond (!((Bm A4 ds 20464 3 ins pa nm).2 == 0)) true false)) (by rw [m2]; exact hR _ (p0.out h0 hw).2)
 have s0:(Bm A4 ds 20464 3 ins pa nm).2=0:=by
  cases h:(!((Bm A4 ds 20464 3 ins pa nm).2 == 0))
  ·exact bz h
  ·rw [h] at hc; cases hc
 have w:0 < sl.length:=by
  rw [s0] at hc
  have:¬ (sl.length:Int)=0:=by
   intro h
   rw [h] at hc
   cases hc
  omega
 obtain ⟨gs,rfl,x3,hs⟩:=K9.H.rowAtF (f:=Ch) (fun _=>rfl) (K9.ix 2) (K9.at 2 rfl) w
 refine AB ZE K9 [] fun a1 q0=>?_
 have z:Il (Bm A4 ds 20464 3 ins pa nm).1:=kE (Nat.le_trans l.len (by decide)) l.lim l.nE l.ev s0
 have e1:sl.length=(Bm A4 ds 20464 3 ins pa nm).1.length:=by rw [← i0,List.length_map]
 have w1:=z.1
 refine BE q0 h0 0 rfl (args:=[BY b,AI (sl.length:Int)]) (BM b ns sl.length a1 (q0.tapeOk h0 0 rfl) (by omega) (by omega)) BQ.ok fun e r0 hq t0=>?_
 obtain ⟨k,hk,rfl,_,_⟩:=hq
 refine ⟨_,rfl,?_⟩
 have a0:k < sl.length:=by omega
 obtain ⟨x,hx⟩:∃ x,sl[k]?=some x:=⟨_,List.getElem?_eq_getElem a0⟩
 obtain ⟨⟨i,frm,n,num,den⟩,uA,uc⟩:=x
 refine CA BS SL [⟨q.heap.size,0,[By A4,.slice A ds.length c],27,true⟩,⟨r0.heap.size,0,[],44,true⟩] t0 [] fun z0 p0=>?_
 have e0:Wk w0 z0 [⟨q.heap.size,0,[By A4,.slice A ds.length c],27,true⟩] [BH w0 b ns,Bj b q,FT (IN gs) rc sl,Th.all (sl.map Gf),FT (IN r0.heap.size) 0 []] []:=p0.entRow 1 (fun (e:KD) r=>r=Ch e) rfl
 refine Q9 e0.H (e0.ix 4) (e0.at 4 rfl) sl (sl.map Ch) (Dj _) ⟨gs,0,none⟩ rc (ID (e0.H.rowsF (f:=Ch) (fun _=>rfl) (e0.ix 2) (e0.at 2 rfl)) (fun r hr=>by obtain ⟨e,_,rfl⟩:=List.mem_map.1 hr; rfl)) (Br SL) (by kernel_rfl) (.tmp 46) (.tmp 47) 29 (by kernel_rfl) (by kernel_rfl) (by kernel_rfl) (by decide) (by kernel_rfl) (by kernel_rfl) (fun r hr=>by obtain ⟨e,_,rfl⟩:=List.mem_map.1 hr; rfl) (fun r hr=>by obtain ⟨e,_,rfl⟩:=List.mem_map.1 hr; rfl) (by rw [List.length_nil]; omega) fun A1 k1 x0 h3 b0=>?_
 have s1:=e0.put 4 (by simp) b0 h3
 rw [List.nil_append] at s1 ⊢
 refine CA BS SK [⟨q.heap.size,0,[By A4,.slice A ds.length c],27,true⟩,⟨x0.heap.size,0,[],44,true⟩] s1 [] fun c2 c3=>?_
 have d0:Wk w0 c2 [⟨q.heap.size,0,[By A4,.slice A ds.length c],27,true⟩] [BH w0 b ns,Bj b q,FT (IN gs) rc sl,Th.all (sl.map Gf),FT A1 k1 sl,FT (IN x0.heap.size) 0 []] []:=c3.entRow 1 (fun (e:KD) r=>r=Ch e) rfl
 refine Q9 d0.H (d0.ix 5) (d0.at 5 rfl) sl (sl.map Ch) (Dj _) ⟨gs,0,none⟩ rc (ID (d0.H.rowsF (f:=Ch) (fun _=>rfl) (d0.ix 2) (d0.at 2 rfl)) (fun r hr=>by obtain ⟨e,_,rfl⟩:=List.mem_map.1 hr; rfl)) (Br SK) (by kernel_rfl) (.tmp 49) (.tmp 50) 29 (by kernel_rfl) (by kernel_rfl) (by kernel_rfl) (by decide) (by kernel_rfl) (by kernel_rfl) (fun r hr=>by obtain ⟨e,_,rfl⟩:=List.mem_map.1 hr; rfl) (fun r hr=>by obtain ⟨e,_,rfl⟩:=List.mem_map.1 hr; rfl) (by rw [List.length_nil]; omega) fun A2 k2 v0 f3 b1=>?_
 have r1:=d0.put 5 (by simp) b1 f3
 rw [List.nil_append] at r1 ⊢
 refine CA BS ZD [⟨q.heap.size,0,[By A4,.slice A ds.length c],27,true⟩,⟨v0.heap.size,0,[],44,true⟩] r1 [] fun a2 b3=>?_
 have c0:Wk w0 a2 [⟨q.heap.size,0,[By A4,.slice A ds.length c],27,true⟩] [BH w0 b ns,Bj b q,FT (IN gs) rc sl,Th.all (sl.map Gf),FT A1 k1 sl,FT A2 k2 sl,FT (IN v0.heap.size) 0 []] []:=b3.entRow 1 (fun (e:KD) r=>r=Ch e) rfl
 refine Q9 c0.H (c0.ix 6) (c0.at 6 rfl) sl (sl.map Ch) (Dj _) ⟨gs,0,none⟩ rc (ID (c0.H.rowsF (f:=Ch) (fun _=>rfl) (c0.ix 2) (c0.at 2 rfl)) (fun r hr=>by obtain ⟨e,_,rfl⟩:=List.mem_map.1 hr; rfl)) (Br ZD) (by kernel_rfl) (.tmp 52) (.tmp 53) 29 (by kernel_rfl) (by kernel_rfl) (by kernel_rfl) (by decide) (by kernel_rfl) (by kernel_rfl) (fun r hr=>by obtain ⟨e,_,rfl⟩:=List.mem_map.1 hr; rfl) (fun r hr=>by obtain ⟨e,_,rfl⟩:=List.mem_map.1 hr; rfl) (by rw [List.length_nil]; omega) fun A3 k3 t3 e3 b2=>?_
 have q1:=c0.put 6 (by simp) b2 e3
 rw [List.nil_append] at q1 ⊢
 refine AB ZC q1 [] fun r3 p=>?_
 obtain ⟨v,rfl,q2,e2⟩:=p.H.rowAtF (f:=Ch) (fun _=>rfl) (p.ix 4) (p.at 4 rfl) w
 obtain ⟨g2,rfl,a4,w3⟩:=p.H.rowAtF (f:=Ch) (fun _=>rfl) (p.ix 5) (p.at 5 rfl) w
 obtain ⟨g3,rfl,z3,v3⟩:=p.H.rowAtF (f:=Ch) (fun _=>rfl) (p.ix 6) (p.at 6 rfl) w
 refine AU [(1,AI a),(6,BY (q.heap.size)),(7,AI 20464),(10,AI (k:Int)),(11,.slice (IN v) sl.length k1),(12,.slice (IN g2) sl.length k2),(13,.slice (IN g3) sl.length k3)] fun h4=>?_
 refine M2 p (mem:=[⟨v,0 + k * 5,Ch ((i,frm,n,num,den),uA,uc),44,false⟩]) [0,1,2,3,4,5,6,7,8,9,10,11,12,13,14,15,16,17,18,19] [(5,0,3),(13,0,4)] [⟨2,[(55,.slice (IN v) sl.length k1),(56,AI (k:Int))],.pointer (some ⟨v,0 + k * 5,none⟩),true⟩,⟨7,[(61,AI a)],AI (a % 1000),true⟩,⟨10,[(63,.slice (IN v) sl.length k1),(64,AI (k:Int))],.pointer (some ⟨v,0 + k * 5,none⟩),true⟩,⟨17,[(55,.slice (IN v) sl.length k1),(56,AI (k:Int))],.pointer (some ⟨v,0 + k * 5,none⟩),true⟩] 20 (fun e' s=>by rw [List.mem_singleton.1 s]; exact ⟨q2,e2 k _ hx⟩) (fun sp m=>?_) fun u Ku=>?_
 ·simp only [List.mem_cons,List.not_mem_nil,or_false] at m
  rcases m with rfl | rfl | rfl | rfl
  ·exact BG fun _ E y j=>BZ (g:=v) (off:=0) (sz:=5) (k:=k) (len:=sl.length) (cap:=k1) 29 (.tmp 55) (.tmp 56) a0 Tryz.underlying29
  ·exact AV 13 [.tmp 61,.const (AI 1000)] [AI a,AI 1000] (fun _=>by kernel_rfl) fun hc y j=>AN j ((Ql a 1000 y o1 m1 (by decide) (by decide)).mono fun e w' hh=>⟨hh.1,by rw [← hh.2]; exact Below.refl _ _⟩)
  ·exact BG fun _ E y j=>BZ (g:=v) (off:=0) (sz:=5) (k:=k) (len:=sl.length) (cap:=k1) 29 (.tmp 63) (.tmp 64) a0 Tryz.underlying29
  ·exact BG fun _ E y j=>BZ (g:=v) (off:=0) (sz:=5) (k:=k) (len:=sl.length) (cap:=k1) 29 (.tmp 55) (.tmp 56) a0 Tryz.underlying29
 obtain ⟨z1,d1,v1,u2⟩:=PY (ρ:=Ax 118 _) (o:=(AS ZC).getD 20 default) Ku.H (Ku.ix 4) (Ku.at 4 rfl) k ((i,frm,n,num,den),uA,uc) ((i,frm,n,IntKind.i64.wrap (num + IntKind.i64.wrap (1 + IntKind.i64.wrap (a % 1000 * den))),den),uA,uc) hx 3 (by decide) (AI (IntKind.i64.wrap (num + IntKind.i64.wrap (1 + IntKind.i64.wrap (a % 1000 * den))))) (fun r h=>by rw [h]; rfl) (fun _ _ h=>by rw [h]; rfl) (t:=3) (x:=.tmp 74) (y:=.tmp 71) (by kernel_rfl) (by kernel_rfl) (by kernel_rfl) (by kernel_rfl) rfl rfl
 refine ⟨z1,d1,?_⟩
 have a3:=Ku.put 4 (by simp) u2 v1
 refine AU [(1,AI a),(6,BY (q.heap.size)),(7,AI 20464),(10,AI (k:Int)),(11,.slice (IN v) sl.length k1),(12,.slice (IN g2) sl.length k2),(13,.slice (IN g3) sl.length k3)] fun g4=>?_
 refine AB SJ a3 [] fun q3 n0=>?_
 obtain ⟨_,r2,l1,f1⟩:=n0.H.rowAtF (f:=Ch) (fun _=>rfl) (n0.ix 5) (n0.at 5 rfl) w
 cases r2
 refine M2 n0 (mem:=[⟨g2,0 + k * 5,Ch ((i,frm,n,num,den),uA,uc),44,false⟩]) [0,1,2,3,4,5,6,7,8,9,10] [(4,0,1)] [⟨2,[(75,.slice (IN g2) sl.length k2),(76,AI (k:Int))],.pointer (some ⟨g2,0 + k * 5,none⟩),true⟩,⟨6,[(80,AI a)],AI (a % 1000),true⟩,⟨9,[(75,.slice (IN g2) sl.length k2),(76,AI (k:Int))],.pointer (some ⟨g2,0 + k * 5,none⟩),true⟩] 11 (fun e' s=>by rw [List.mem_singleton.1 s]; exact ⟨l1,f1 k _ hx⟩) (fun sp m=>?_) fun u Ku=>?_
 ·simp only [List.mem_cons,List.not_mem_nil,or_false] at m
  rcases m with rfl | rfl | rfl
  ·exact BG fun _ E y j=>BZ (g:=g2) (off:=0) (sz:=5) (k:=k) (len:=sl.length) (cap:=k2) 29 (.tmp 75) (.tmp 76) a0 Tryz.underlying29
  ·exact AV 13 [.tmp 80,.const (AI 1000)] [AI a,AI 1000] (fun _=>by kernel_rfl) fun hc y j=>AN j ((Ql a 1000 y o1 m1 (by decide) (by decide)).mono fun e w' hh=>⟨hh.1,by rw [← hh.2]; exact Below.refl _ _⟩)
  ·exact BG fun _ E y j=>BZ (g:=g2) (off:=0) (sz:=5) (k:=k) (len:=sl.length) (cap:=k2) 29 (.tmp 75) (.tmp 76) a0 Tryz.underlying29
 obtain ⟨x1,c1,u1,t2⟩:=PY (ρ:=Ax 118 _) (o:=(AS SJ).getD 11 default) Ku.H (Ku.ix 5) (Ku.at 5 rfl) k ((i,frm,n,num,den),uA,uc) ((i,IntKind.i64.wrap (frm + IntKind.i64.wrap (1 + a % 1000)),n,num,den),uA,uc) hx 1 (by decide) (AI (IntKind.i64.wrap (frm + IntKind.i64.wrap (1 + a % 1000)))) (fun r h=>by rw [h]; rfl) (fun _ _ h=>by rw [h]; rfl) (t:=3) (x:=.tmp 85) (y:=.tmp 83) (by kernel_rfl) (by kernel_rfl) (by kernel_rfl) (by kernel_rfl) rfl rfl
 refine ⟨x1,c1,?_⟩
 have z2:=Ku.put 5 (by simp) t2 u1
 refine AU [(1,AI a),(6,BY (q.heap.size)),(7,AI 20464),(10,AI (k:Int)),(11,.slice (IN v) sl.length k1),(12,.slice (IN g2) sl.length k2),(13,.slice (IN g3) sl.length k3)] fun f4=>?_
 refine Ae Aa TM z2 [] fun p3 x2=>?_
 refine Au (g:=g3) (off:=0) (cap:=k3) (sz:=5) (k:=k) (len:=sl.length) (some 88) a0 Tryz.underlying29 ?_
 refine Ae sg fG x2 [] fun o3 m0=>?_
 refine lR m0.H (m0.ix 6) (m0.at 6 rfl) k ((i,frm,n,num,den),uA,uc) (([104],frm,n,num,den),uA,uc) hx 0 (by decide) (By [104]) (fun r h=>by rw [h]; rfl) (fun _ _ h=>by rw [h]; rfl) 9 none (by kernel_rfl) (by kernel_rfl) rfl rfl fun m3 t1 s2 b4=>?_
 have w2:=m0.put 6 (by simp) s2 t1
 refine AU [(1,AI a),(6,BY (q.heap.size)),(7,AI 20464),(10,AI (k:Int)),(11,.slice (IN v) sl.length k1),(12,.slice (IN g2) sl.length k2),(13,.slice (IN g3) sl.length k3)] fun e4=>?_
 refine Am 11 fF w2 [] fun g0 d=>?_
 have k0:∀ x,Gf x=Gf ((i,frm,n,num,den),uA,uc)→(sl.set k x).map Gf=sl.map Gf:=fun x d2=>by rw [List.map_set,d2,VL (by rw [List.getElem?_map,hx]; rfl)]
 have j0:(Bm A4 ds 20464 3 ins pa nm).1[k]?=some (i,frm,n,num,den):=by rw [← i0,List.getElem?_map,hx]; rfl
 have p2:=Int.emod_nonneg a (show (1000:Int)≠0 by decide)
 have o2:=Int.emod_lt_of_pos a (show (0:Int) < 1000 by decide)
 obtain ⟨n1,n2,n3⟩:=kB l s0 j0 p2 o2
 have i1:=(z.2 _ (List.mem_of_getElem? j0)).1
 have l2:∀ y,Below g0.heap.size g0 y→rowsSt y (IN v) ((Bm A4 ds 20464 3 ins pa nm).1.set k (i,frm,n,IntKind.i64.wrap (num + IntKind.i64.wrap (1 + IntKind.i64.wrap (a % 1000 * den))),den)):=fun y j=>by
  have h:=d.H.rowsSt (sl:=sl.set k ((i,frm,n,IntKind.i64.wrap (num + IntKind.i64.wrap (1 + IntKind.i64.wrap (a % 1000 * den))),den),uA,uc)) (d.ix 4) (d.ix 3) (d.at 4 rfl) (d.at 3 (by rw [k0 ((i,frm,n,IntKind.i64.wrap (num + IntKind.i64.wrap (1 + IntKind.i64.wrap (a % 1000 * den))),den),uA,uc) rfl]; rfl))
  rw [List.map_set,i0] at h
  exact h.below j
 have i2:∀ y,Below g0.heap.size g0 y→rowsSt y (IN g2) ((Bm A4 ds 20464 3 ins pa nm).1.set k (i,IntKind.i64.wrap (frm + IntKind.i64.wrap (1 + a % 1000)),n,num,den)):=fun y j=>by
  have h:=d.H.rowsSt (sl:=sl.set k ((i,IntKind.i64.wrap (frm + IntKind.i64.wrap (1 + a % 1000)),n,num,den),uA,uc)) (d.ix 5) (d.ix 3) (d.at 5 rfl) (d.at 3 (by rw [k0 ((i,IntKind.i64.wrap (frm + IntKind.i64.wrap (1 + a % 1000)),n,num,den),uA,uc) rfl]; rfl))
  rw [List.map_set,i0] at h
  exact h.below j
 have h2:∀ y,Below g0.heap.size g0 y→rowsSt y (IN g3) ((Bm A4 ds 20464 3 ins pa nm).1.set k ([104],frm,n,num,den)):=fun y j=>by
  have h:=d.H.rowsSt (sl:=sl.set k (([104],frm,n,num,den),uA,uc)) (d.ix 6) (d.ix 3) (d.at 6 rfl) (d.at 3 (by rw [k0 (([104],frm,n,num,den),uA,uc) rfl]; rfl))
  rw [List.map_set,i0] at h
  exact h.below j
 refine Ap d (mem:=[⟨q.heap.size,0,[By A4,.slice A ds.length c],27,true⟩]) [(0,0,0),(6,0,0),(13,0,0),(20,0,0)] [⟨3,[(90,.agg ⟨[By A4,.slice A ds.length c]⟩),(91,AI 20464),(92,.slice (IN v) sl.length k1)],.bool false,true⟩,⟨9,[(96,.agg ⟨[By A4,.slice A ds.length c]⟩),(97,AI 20464),(98,.slice (IN g2) sl.length k2)],.bool false,true⟩,⟨16,[(103,.agg ⟨[By A4,.slice A ds.length c]⟩),(104,AI 20464),(105,.slice (IN g3) sl.length k3)],.bool false,true⟩,⟨22,[(110,.agg ⟨[By A4,.slice A ds.length c]⟩),(111,AI 20464)],.bool false,true⟩,⟨26,[],.bool true,true⟩] (fun e' s=>by rw [List.mem_singleton.1 s]; exact d.ent 0 rfl) (fun sp m=>?_) fun l3 c4 v2=>?_
 ·simp only [List.mem_cons,List.not_mem_nil,or_false] at m
  have l0:∀ x:Cr,((Bm A4 ds 20464 3 ins pa nm).1.set k x).length=sl.length:=fun x=>by rw [List.length_set,e1]
  rcases m with rfl | rfl | rfl | rfl | rfl
  ·exact AV 14 [.tmp 90,.tmp 91,.tmp 92] [.agg ⟨[By A4,.slice A ds.length c]⟩,AI 20464,.slice (IN v) sl.length k1] (fun _=>by kernel_rfl) fun hc y j=>AN j (by
   have hq:=IA A4 A ds c 20464 3 (IN v) ((Bm A4 ds 20464 3 ins pa nm).1.set k (i,frm,n,IntKind.i64.wrap (num + IntKind.i64.wrap (1 + IntKind.i64.wrap (a % 1000 * den))),den)) k1 y (l.rows y ((d.out h0 hw).2.trans (.of_below j))) (Nat.le_trans l.len (by decide)) l.cap (by decide) l.lim l.ex l.nE l.ev (l2 y j) (z.set j0 i1 rfl)
   rw [n1] at hq
   rw [l0] at hq; exact hq)
  ·exact AV 14 [.tmp 96,.tmp 97,.tmp 98] [.agg ⟨[By A4,.slice A ds.length c]⟩,AI 20464,.slice (IN g2) sl.length k2] (fun _=>by kernel_rfl) fun hc y j=>AN j (by
   have hq:=IA A4 A ds c 20464 3 (IN g2) ((Bm A4 ds 20464 3 ins pa nm).1.set k (i,IntKind.i64.wrap (frm + IntKind.i64.wrap (1 + a % 1000)),n,num,den)) k2 y (l.rows y ((d.out h0 hw).2.trans (.of_below j))) (Nat.le_trans l.len (by decide)) l.cap (by decide) l.lim l.ex l.nE l.ev (i2 y j) (z.set j0 i1 rfl)
   rw [n2] at hq
   rw [l0] at hq; exact hq)
  ·exact AV 14 [.tmp 103,.tmp 104,.tmp 105] [.agg ⟨[By A4,.slice A ds.length c]⟩,AI 20464,.slice (IN g3) sl.length k3] (fun _=>by kernel_rfl) fun hc y j=>AN j (by
   have hq:=IA A4 A ds c 20464 3 (IN g3) ((Bm A4 ds 20464 3 ins pa nm).1.set k ([104],frm,n,num,den)) k3 y (l.rows y ((d.out h0 hw).2.trans (.of_below j))) (Nat.le_trans l.len (by decide)) l.cap (by decide) l.lim l.ex l.nE l.ev (h2 y j) (z.set j0 (show ([104]:List UInt8).length≤4294967296 by decide) rfl)
   rw [n3] at hq
   rw [l0] at hq; exact hq)
  ·exact AV 14 [.tmp 110,.tmp 111,.const (.slice none 0 0)] [.agg ⟨[By A4,.slice A ds.length c]⟩,AI 20464,.slice none 0 0] (fun _=>by kernel_rfl) fun hc y j=>AN j (by
   have hq:=IA A4 A ds c 20464 3 none [] 0 y (l.rows y ((d.out h0 hw).2.trans (.of_below j))) (Nat.le_trans l.len (by decide)) l.cap (by decide) l.lim l.ex l.nE l.ev ⟨[],trivial,.inl rfl⟩ ⟨by decide,fun e he=>by cases he⟩
   rw [d7] at hq
   exact hq)
  ·exact AV 11 [] [] (fun _=>by kernel_rfl) fun hc y j=>AN j (VO y)
 refine AB uV v2 [] fun i3 p1=>?_
 exact AJ p1 (0,0) (.bool true) (hR _ (p1.out h0 hw).2)
theorem G5.more {w:World} {b a:Nat} {v:Value} {ns:List Int} (h:G5 w b v ns) (hb:b≤a):G5 w a v ns:=by
 obtain ⟨A,c,rfl,f,h2,d⟩:=h
 exact ⟨A,c,rfl,f,h2,fun hn=>let ⟨g,off,e,hg,hc⟩:=d hn; ⟨g,off,e,by omega,hc⟩⟩
theorem d8 (t:Value) (ns:List Int) (a:Int) (w:World) (hi:G5 w w.heap.size t ns) (o:-9223372036854775808≤a) (m:a≤9223372036854775807) :
  Calls Tryz.prog 3 #[t,AI a] w fun e w'=>e=.returned (.bool true)∧Below w.heap.size w w':=by
 obtain ⟨k,j,rfl,c0,b0,a0⟩:=id hi
 have hI:G5 w w.heap.size (.slice k ns.length j) ns:=hi
 refine AR (args:=[.slice k ns.length j,AI a]) (fn:=Tryz.f3) (c:=Xw) (n:=118) ?_
 refine AB oh (Wk.start w) [] fun s h=>?_
 refine A7 (args:=[.slice k ns.length j]) (Wf _ ns s ((hI.keep fun g hg=>h.B.block g hg).more h.B.size)) fun e w2 d=>?_
 obtain ⟨rfl,D2,v,b2⟩:=d
 refine ⟨_,rfl,?_⟩
 have r:=h.B.trans (b2.mono h.B.size)
 have f:=h.B.size
 generalize s.heap.size=b at *
 refine AB og (Wk.start w2) [] fun w3 q=>?_
 have D3:=D2.below q.B
 refine A7 (args:=[BY b,AI (3:Nat),.bool false]) (ADk b ns 3 false (by decide) (by decide) _ D3) fun e i d=>?_
 obtain ⟨A,c,ds,rfl,x,D4,p⟩:=d.made
 refine ⟨_,rfl,?_⟩
 obtain ⟨w0,y,z⟩:=Wk.tape D4
 have u:=z.B
 refine Af NF [⟨i.heap.size,0,[By A4,.slice A ds.length c],27,true⟩] z [(0,0)] fun w5 K5=>?_
 refine AU [(1,AI a),(5,BY b),(6,BY (i.heap.size)),(7,AI 20464)] fun E5=>?_
 refine tD y x K5 u fun ins pa nm rA rc sl E6 w6 l K6=>?_
 have B4:Below w.heap.size w i:=(r.trans (q.B.mono r.size)).trans (p.below f (Nat.le_trans r.size q.B.size))
 exact W0 o m y u x l K6 fun w' d=>⟨rfl,B4.trans (d.below f B4.size)⟩
end
end Go.Proofs.YtkjbdagicjbjjaaGreat

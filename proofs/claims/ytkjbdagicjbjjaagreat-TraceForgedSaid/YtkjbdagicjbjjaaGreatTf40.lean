/-
  Part 40 of a proof: contracts of functions.
-/
import Derived.Test.YtkjbdagicjbjjaaGreatTf39
set_option linter.all false
namespace Go.Proofs.YtkjbdagicjbjjaaGreat
noncomputable section
open Go.RowKit
set_option maxRecDepth 100000
set_option maxHeartbeats 1000000
abbrev C5 (A:Option Addr) (c:Nat) (l:List (Int×Int)):Th:=Th.row 41 2 (fun e r=>r=BP e) A c l
abbrev PaX:=Dn×Option Addr×Nat
abbrev XU (x:PaX):List Value:=[By (x.1.1),.slice x.2.1 x.1.2.length x.2.2]
abbrev zJ (A:Option Addr) (c:Nat) (l:List PaX):Th:=Th.row 90 2 (fun e r=>r=XU e) A c l
theorem Ac.slOk {α:Type} {b:Nat} {w:World} {L:List Th} {U:TypeId} {n:Nat} {e:α→List Value→Prop} {A:Option Addr} {c:Nat} {l:List α} (h:Ac b w L) (i:Nat) (hi:L[i]?=some (Th.row U n e A c l)):eP A l.length c:=by
 obtain ⟨rs,_,ho⟩:=h.all i _ hi
 rcases ho.2 with ⟨d,h2⟩ | ⟨g,cap,j,d,_,_,f,_⟩
 ·simp only [Value.slice.injEq] at d
  obtain ⟨rfl,_,rfl⟩:=d
  exact ⟨by omega,fun a ha=>by cases ha⟩
 ·simp only [Value.slice.injEq] at d
  obtain ⟨rfl,_,rfl⟩:=d
  exact ⟨f,fun a ha=>by obtain rfl:=Option.some.inj ha; rfl⟩
theorem Pe {P:Program} {o:Oper} {ρ:Operand→Value} {α:Type} {b:Nat} {w:World} {L:List Th} {U:TypeId} {n g c:Nat} {f:α→List Value} {x0 e':α} {s:List α} (hn:∀ e,(f e).length=n) (H:Ac b w L) (i:Nat) (hi:L[i]?=some (Th.row U n (fun e r=>r=f e) (IN g) c (x0 :: s))) {t:TypeId} {x y:Operand} (ho:o.op=.store t x y) (hx:ρ x=BY g) (hy:ρ y=.agg ⟨f e'⟩) (v:JO P t=some n) (h1:(f e').all (·.oneCell')=true) :
  ∃ w',(execOp ρ o).run P w=.ok .skip w'∧Ac b w' (L.set i (Th.row U n (fun e r=>r=f e) (IN g) c (e' :: s)))∧Below b w w':=by
 obtain ⟨rs,hr,hP⟩:=H.all i _ hi
 have l:=Hj hr
 rcases hP.2 with ⟨h0,_⟩ | ⟨g',cap,a,hA,_,hg,p,b0,a0,ht⟩
 ·cases h0
 simp only [Value.slice.injEq,Option.some.injEq,Addr.mk.injEq] at hA
 obtain ⟨⟨rfl,_⟩,_,rfl⟩:=hA
 have c0:n≤a.size:=by
  rw [a0]
  exact Nat.le_mul_of_pos_left n (by rw [List.length_cons] at p; omega)
 have k:=run_storeCells_at P g 0 U (f e') 0 a w hg (by rw [hn]; omega) (fun u hu=>List.all_eq_true.1 h1 u hu)
 obtain ⟨j,m⟩:∃ j,j=(a.toList.take (0 + 0)++f e'++a.toList.drop (0 + 0 + (f e').length)).toArray:=⟨_,rfl⟩
 rw [← m] at k
 have d:j.toList=f e'++a.toList.drop n:=by rw [m,hn]; simp
 have d0:=H.lo i _ hi g rfl
 have h:(w.setRow g j).heap.size=w.heap.size:=by unfold World.setRow; simp
 refine ⟨w.setRow g j,?_,H.set i hi (by omega) ⟨(e' :: s).map f,Dj _,?_,.inr ⟨g,c,j,rfl,Nat.zero_le _,setRow_heap w g a _ U _ hg,p,b0,?_,?_⟩⟩ (fun q z=>⟨?_,.inl z⟩) (fun q _ hf=>setRow_other w g q _ fun e=>hf (by rw [e]; rfl)),⟨rfl,rfl,rfl,by omega,fun q z=>setRow_other w g q _ fun e=>by omega⟩⟩
 ·unfold execOp
  simp only [ho,hx,hy]
  have h2:(Value.agg ⟨f e'⟩).cells=⟨f e'⟩:=rfl
  have h3:(⟨f e'⟩:Array Value).size=n:=hn e'
  simp [Instr.storeAt,Instr.sureAddr,storeVar,Gs v,h2,h3,k]
 ·have:=hP.1
  rw [l] at this
  rw [List.map_cons,List.flatten_cons,List.length_append,hn]
  rw [List.map_cons,List.flatten_cons,List.length_append,hn] at this
  exact this
 ·rw [← Array.length_toList,d,List.length_append,hn,List.length_drop,Array.length_toList]
  omega
 ·rw [l,List.map_cons,List.flatten_cons] at ht
  rw [d,List.map_cons,List.flatten_cons,List.length_cons,Nat.succ_mul,Nat.add_comm,← hn e',List.take_length_add_append]
  have h2:=congrArg (List.drop n) ht
  rw [List.drop_take,List.length_cons,Nat.succ_mul,Nat.add_sub_cancel] at h2
  rw [hn,h2,← hn x0,List.drop_left]
 ·rw [h]
  exact (H.lo i _ hi q z).2
attribute [local irreducible] A8 BL AC AD AF Ao AY AL Aq Bb Cn BR Dx Cm BK At Fr
noncomputable def YL:Code:=Tryz.f9.body.getD .skip
def NH:=AA 60 [.code YL]
def Zu:=AA 60 (Ao NH)
def pi:=AA 60 (AD Zu)
def NG:=AA 60 (AC pi)
def Zt:=AA 60 (Ao NG)
def Zs:=Ai 8 (AD Zt)
def ph:=AA 60 (AF Zu)
def Zr:=AA 60 (AC ph)
def Zq:=AA 60 (AD Zr)
def pe:=AA (Ak (Aa) 90 (AC Zq)) (AC Zq)
def fS:=AA 60 (AC pe)
def Ta:=AA 60 (AF Zr)
def TZ:=Ai 13 (AD Ta)
def fR:=AA 60 (AL TZ)
def uk:=AA 60 (AF Ta)
def FA:Array Oper:=AS Zs
def ny:Wr:=[(22,2),(23,3),(24,4),(25,5),(26,6),(27,7),(28,8),(29,9)]
def Id:Array Oper:=AS TZ
def tf:Wr:=[(44,0),(45,1),(46,2),(47,3),(48,4),(49,5),(50,6),(51,7)]
theorem Jo {b:Nat} {ns:List Int} {w0 w w':World} {h g:Option Addr} {d a:Nat} {l0 l1:List (Int×Int)} (K:Wk w0 w' [⟨w.heap.size,0,[By [103,114,111,115,115],.slice h l0.length d,By [116,105,109,101],.slice g l1.length a],90,true⟩] [BH w0 b ns,Bj b w,C5 h d l0,C5 g a l1] []) (i:w0.heap.size=b) (k:Below w0.heap.size w0 w) (m:l0.length≤4) (l:l1.length≤4) :
  ∃ A c,∃ pa:List Dn,∃ L':List Th,Ending.returned (.slice (IN w.heap.size) 2 2)=.returned (.slice A pa.length c)∧pa.length≤2∧(∀ x∈pa,x.2.length≤4)∧Ac (b + 1) w' L'∧(∀ u,Ac (b + 1) u L'→EE u A pa)∧BW b ns w'∧CE b w w':=by
 have j:=K.entRows (n:=2) 0 (fun e r=>r=XU e) [(([103,114,111,115,115],l0),h,d),(([116,105,109,101],l1),g,a)] ([(([103,114,111,115,115],l0),h,d),(([116,105,109,101],l1),g,a)].map XU) (Dj _) rfl rfl (by simp) rfl
 refine ⟨IN w.heap.size,2,[([103,114,111,115,115],l0),([116,105,109,101],l1)],[C5 h d l0,C5 g a l1,zJ (IN w.heap.size) 2 [(([103,114,111,115,115],l0),h,d),(([116,105,109,101],l1),g,a)]],rfl,by simp,fun x hx=>?_,j.fin i,fun u hu=>?_,j.out i k⟩
 ·simp only [List.mem_cons,List.not_mem_nil,or_false] at hx
  rcases hx with rfl | rfl
  ·exact m
  ·exact l
 ·have o:=hu.rowsF (f:=XU) (fun _=>rfl) 2 rfl
  exact ⟨[XU (([103,114,111,115,115],l0),h,d),XU (([116,105,109,101],l1),g,a)],⟨⟨h,d,rfl,hu.slOk 0 rfl,hu.rowsF (fun _=>rfl) 0 rfl⟩,⟨g,a,rfl,hu.slOk 1 rfl,hu.rowsF (fun _=>rfl) 1 rfl⟩,trivial⟩,o⟩
theorem nC {b:Nat} {ns:List Int} {w0 w:World} {R:Ending→World→Prop} (h0:w0.heap.size=b) (d0:b < w.heap.size) {c l:Option Addr} {a j:Nat} {l0 l1:List (Int×Int)} {k:Nat} (hI:1≤l0.length + k∧l0.length + k≤4∧l1.length=0) (z:Nat→Value) (q:World) (K0:Wk w0 q [⟨w.heap.size,0,[By [103,114,111,115,115],.slice c l0.length a,By [116,105,109,101],.slice l l1.length j],90,true⟩] [BH w0 b ns,Bj b w,C5 c a l0,C5 l j l1] [])
  (s:∀ (c:Option Addr) (l0:List (Int×Int)) (a:Nat) (l:Option Addr) (l1:List (Int×Int)) (j:Nat) (E:Nat→Value) (wy:World),1≤l0.length→l0.length≤4→l1.length=0→Wk w0 wy [⟨w.heap.size,0,[By [103,114,111,115,115],.slice c l0.length a,By [116,105,109,101],.slice l l1.length j],90,true⟩] [BH w0 b ns,Bj b w,C5 c a l0,C5 l j l1] []→At Tryz.prog 9 R (AY NH) (Fr 54 (BC E [(0,BY b),(3,.slice (IN w.heap.size) 2 2),(4,AI ((1:Nat):Int))])) wy) :
  At Tryz.prog 9 R NG (Fr 54 (BC z [(0,BY b),(3,.slice (IN w.heap.size) 2 2),(4,AI ((0:Nat):Int)),(5,AI (k:Int))])) q:=by
 refine Bd (by kernel_rfl) (fun E q=>∃ (k:Nat) (c:Option Addr) (l0:List (Int×Int)) (a:Nat) (l:Option Addr) (l1:List (Int×Int)) (j:Nat) (z:Nat→Value),E=BC z [(0,BY b),(3,.slice (IN w.heap.size) 2 2),(4,AI ((0:Nat):Int)),(5,AI (k:Int))]∧(1≤l0.length + k∧l0.length + k≤4∧l1.length=0)∧Wk w0 q [⟨w.heap.size,0,[By [103,114,111,115,115],.slice c l0.length a,By [116,105,109,101],.slice l l1.length j],90,true⟩] [BH w0 b ns,Bj b w,C5 c a l0,C5 l j l1] []) (fun E _=>AK (E 5)) ⟨k,c,l0,a,l,l1,j,z,rfl,hI,K0⟩ ?_
 clear K0 hI
 rintro E q ⟨k,c,l0,a,l,l1,j,z,rfl,hI,K1⟩ p
 refine AB Zt K1 [] fun w2 K2=>?_
 refine AG (decide (0 < (k:Int))) (fun cc=>?_) (fun cc=>?_)
 ·obtain ⟨k,rfl⟩:∃ m,k=m + 1:=⟨k - 1,by have:=of_decide_eq_true cc; omega⟩
  refine Am 8 Zs K2 [] fun w3 K3=>?_
  refine EV FA 14 ?_
  refine I6 (i:=0) (v:=.slice (IN w.heap.size) 2 2) (FA.getD 0 default) (by kernel_rfl) (by kernel_rfl) (by kernel_rfl) (by kernel_rfl) (by kernel_rfl) (by kernel_rfl) (fun _ _ _ h=>nomatch h.1) ?_
  refine I6 (i:=1) (v:=AI ((0:Nat):Int)) (FA.getD 1 default) (by kernel_rfl) (by kernel_rfl) (by kernel_rfl) (by kernel_rfl) (by kernel_rfl) (by kernel_rfl) (fun _ _ _ h=>nomatch h.1) ?_
  refine Dq (md:=.any) (fuel:=4) (L:=[BV 2 [] (.slice (IN w.heap.size) 2 2),BV 3 [] (AI ((0:Nat):Int)),BV 4 [2,3] (.pointer (some ⟨w.heap.size,0 + 0 * 2,none⟩)),BV 5 [2,3,4] (.pointer (some ⟨w.heap.size,0 + 0 * 2 + 1,none⟩)),BV 6 [2,3,4,5] (.slice c l0.length a),BV 7 [] (BY b),⟨8,[7],[8],fun vs _=>∃ n d:Int,vs=[.agg ⟨[AI n,AI d]⟩]⟩,⟨9,[7,8],[8,9],fun vs u=>∃ (n d:Int) (g:Nat),vs=[.agg ⟨[AI n,AI d]⟩,.slice (IN g) 1 1]∧Wk w0 u [⟨w.heap.size,0,[By [103,114,111,115,115],.slice c l0.length a,By [116,105,109,101],.slice l l1.length j],90,true⟩,⟨g,0,[AI n,AI d],41,true⟩] [BH w0 b ns,Bj b w,C5 c a l0,C5 l j l1] []⟩]) (W:=ny) (C:=fun u=>Wk w0 u [⟨w.heap.size,0,[By [103,114,111,115,115],.slice c l0.length a,By [116,105,109,101],.slice l l1.length j],90,true⟩] [BH w0 b ns,Bj b w,C5 c a l0,C5 l j l1] []) (Ext:=fun u u'=>∀ (g:Nat) (n d:Int),Wk w0 u [⟨w.heap.size,0,[By [103,114,111,115,115],.slice c l0.length a,By [116,105,109,101],.slice l l1.length j],90,true⟩,⟨g,0,[AI n,AI d],41,true⟩] [BH w0 b ns,Bj b w,C5 c a l0,C5 l j l1] []→Wk w0 u' [⟨w.heap.size,0,[By [103,114,111,115,115],.slice c l0.length a,By [116,105,109,101],.slice l l1.length j],90,true⟩,⟨g,0,[AI n,AI d],41,true⟩] [BH w0 b ns,Bj b w,C5 c a l0,C5 l j l1] []) (K3.below (Below.refl _ _).drew) (fun _ _ _ _ K=>K) (fun _ _ _ h1 h2 g n d K=>h2 g n d (h1 g n d K)) ⟨?_,?_,?_,?_,?_,?_,?_,?_,trivial⟩ rfl ?_
  ·exact ⟨fun _ _ _ _ _ h=>h,fun vals u hu hb=>AM.knownE [] trivial (AM.reads ⟨0,[],(0,0),[]⟩ (fun e he=>by cases he) (.slice (IN w.heap.size) 2 2) ⟨hu,fun _ _ _ K=>K,rfl⟩)⟩
  ·exact ⟨fun _ _ _ _ _ h=>h,fun vals u hu hb=>AM.knownE [] trivial (AM.reads ⟨0,[],(0,0),[]⟩ (fun e he=>by cases he) (AI ((0:Nat):Int)) ⟨hu,fun _ _ _ K=>K,rfl⟩)⟩
  ·refine ⟨fun _ _ _ _ _ h=>h,fun vals u hu hb=>?_⟩
   obtain ⟨h2,h3,_⟩:=hb
   exact AM.knownE [(22,2,.slice (IN w.heap.size) 2 2),(23,3,AI ((0:Nat):Int))] ⟨(List.cons.inj h2).1,(List.cons.inj h3).1,trivial⟩ (AM.value (BZ (sz:=2) (k:=0) (len:=2) (cap:=2) 35 (.tmp 22) (.tmp 23) (hx:=rfl) (hi:=rfl) (by decide) Tryz.underlying35) ⟨hu,fun _ _ _ K=>K,rfl⟩)
  ·refine ⟨fun _ _ _ _ _ h=>h,fun vals u hu hb=>?_⟩
   obtain ⟨h2,h3,h4,_⟩:=hb
   exact AM.knownE [(24,4,.pointer (some ⟨w.heap.size,0 + 0 * 2,none⟩))] ⟨(List.cons.inj h4).1,trivial⟩ (AM.reads ⟨0,[],(0,0),[]⟩ (fun e he=>by cases he) (.pointer (some ⟨w.heap.size,0 + 0 * 2 + 1,none⟩)) ⟨hu,fun _ _ _ K=>K,rfl⟩)
  ·refine ⟨fun _ _ _ _ _ h=>h,fun vals u hu hb=>?_⟩
   obtain ⟨h2,h3,h4,h5,_⟩:=hb
   exact AM.knownE [(25,5,.pointer (some ⟨w.heap.size,0 + 0 * 2 + 1,none⟩))] ⟨(List.cons.inj h5).1,trivial⟩ (AM.reads ⟨0,[⟨w.heap.size,0,[By [103,114,111,115,115],.slice c l0.length a,By [116,105,109,101],.slice l l1.length j],90,true⟩],(0,1),[]⟩ (fun e he=>by rw [List.mem_singleton.1 he]; exact hu.ent 0 rfl) (.slice c l0.length a) ⟨hu,fun _ _ _ K=>K,rfl⟩)
  ·exact ⟨fun _ _ _ _ _ h=>h,fun vals u hu hb=>AM.knownE [] trivial (AM.reads ⟨0,[],(0,0),[]⟩ (fun e he=>by cases he) (BY b) ⟨hu,fun _ _ _ K=>K,rfl⟩)⟩
  ·refine ⟨fun _ _ _ _ _ h=>h,fun vals u hu hb=>?_⟩
   obtain ⟨h7,_⟩:=hb
   refine AM.knownE [(27,7,BY b)] ⟨(List.cons.inj h7).1,trivial⟩ (AM.call (f:=26) [.tmp 27] (args:=[BY b]) (ats:=#[23]) rfl (CG _ u) ((KO b ns u (hu.tapeOk h0 0 rfl)).mono fun e w' hq=>?_))
   have o:=FR.ok _ _ hq
   have Kt:=hu.tick h0 0 rfl o.1 o.2
   obtain ⟨n,d,rfl,_,_⟩:=hq
   exact ⟨_,rfl,Kt,fun _ _ _ K=>K.tick h0 0 rfl o.1 o.2,n,d,rfl⟩
  ·refine ⟨fun vs u u' _ hE h=>?_,fun vals u hu hb=>?_⟩
   ·obtain ⟨n,d,g,hv,K⟩:=h
    exact ⟨n,d,g,hv,hE g n d K⟩
   ·obtain ⟨_,⟨n,d,h8⟩,_⟩:=hb
    refine AM.knownE [(28,8,.agg ⟨[AI n,AI d]⟩)] ⟨(List.cons.inj h8).1,trivial⟩ (AM.runsK ⟨u.heap.size,[],(0,0),[]⟩ ⟨u.heap.size + 1,[⟨u.heap.size,0,[AI n,AI d],41,true⟩],(0,0),[]⟩ (.value (.slice (IN u.heap.size) 1 1)) (.slice (IN u.heap.size) 1 1) (.inl rfl) (CH u) rfl fun w' hL hK=>?_)
    have B:Below u.heap.size u w':=CO hK
    have H:Ac u.heap.size w' ([⟨u.heap.size,0,[AI n,AI d],41,true⟩].map Th.ent++[]):=Ac.run (M:=[]) (Ac.nil (Nat.le_refl _)) hL hK rfl
    exact ⟨hu.below B,fun _ _ _ K=>K.below B,n,d,u.heap.size,by rw [← (List.cons.inj h8).1]; rfl,hu.joinE B H⟩
  intro vals w3 _ _ t
  obtain ⟨_,_,_,_,x6,_,_,⟨r,x,gn,x8,y⟩,_⟩:=t
  refine CI [(0,BY b),(3,.slice (IN w.heap.size) 2 2),(4,AI ((0:Nat):Int)),(5,AI ((k + 1:Nat):Int)),(20,.slice (IN w.heap.size) 2 2),(21,AI ((0:Nat):Int)),(26,vals 6),(29,vals 9)] fun E9=>?_
  rw [show vals 6=.slice c l0.length a from (List.cons.inj x6).1,show vals 9=.slice (IN gn) 1 1 from (List.cons.inj (List.cons.inj x8).2).1]
  obtain ⟨A2,c2,w5,a0,H5,b5⟩:=N8 (k:=54) (E:=_) y.H (y.ix 2) (y.at 2 rfl) (r,x) [AI r,AI x] rfl gn (y.ent 1 rfl) (FA.getD 10 default) (.tmp 26) (.tmp 29) 67 (by kernel_rfl) (by kernel_rfl) (by kernel_rfl) (by decide) (by kernel_rfl) (by kernel_rfl) rfl rfl (by omega)
  refine H3 (i:=10) (fuel:=3) (FA.getD 10 default) a0 ?_
  have K5:=y.put 2 (by simp) b5 H5
  refine H3 (i:=11) (fuel:=2) (FA.getD 11 default) (BZ (g:=w.heap.size) (off:=0) (sz:=2) (k:=0) (len:=2) (cap:=2) 35 (.tmp 20) (.tmp 21) (by decide) Tryz.underlying35) ?_
  refine Fq (i:=12) K5 (FA.getD 12 default) (0,0) (.pointer (some ⟨w.heap.size,0 + 0 * 2 + 1,none⟩)) fun w6 K6=>?_
  refine Ob (i:=13) K6 (FA.getD 13 default) [⟨w.heap.size,0,[By [103,114,111,115,115],.slice A2 (l0++[(r,x)]).length c2,By [116,105,109,101],.slice l l1.length j],90,true⟩,⟨gn,0,[AI r,AI x],41,true⟩] (0,1) undef fun w7 K7=>?_
  refine Em ⟨rfl,At.mid ?_⟩
  refine AB (AY NG) K7 [] fun w8 K8=>?_
  refine AU [(0,BY b),(3,.slice (IN w.heap.size) 2 2),(4,AI ((0:Nat):Int)),(5,AI (IntKind.i64.wrap (((k + 1:Nat):Int) - 1)))] fun E8=>?_
  rw [show IntKind.i64.wrap (((k + 1:Nat):Int) - 1)=(k:Int) by rw [IntWalk.i64_in _ (by omega)]; omega]
  refine p _ _ ⟨k,A2,l0++[(r,x)],c2,l,l1,j,E8,rfl,by rw [List.length_append,List.length_singleton]; omega,K8.pk [0] [0,1,2,3]⟩ ?_
  show AK (AI ((k:Nat):Int)) < AK (AI ((k + 1:Nat):Int))
  simp only [AK]
  omega
 ·have b0:k=0:=by have:=of_decide_eq_false cc; omega
  subst b0
  refine AB (AY NH) K2 [] fun w3 K3=>?_
  refine AU [(0,BY b),(3,.slice (IN w.heap.size) 2 2),(4,AI (IntKind.i64.wrap (((0:Nat):Int) + 1)))] fun E3=>?_
  rw [Bc 0 (by omega)]
  exact s c l0 a l l1 j E3 w3 (by omega) (by omega) hI.2.2 K3
theorem nB {b:Nat} {ns:List Int} {w0 w:World} {R:Ending→World→Prop} (h0:w0.heap.size=b) (d0:b < w.heap.size) {l c:Option Addr} {j a:Nat} {l0 l1:List (Int×Int)} {k:Nat} (x:1≤l1.length + k∧l1.length + k≤4∧1≤l0.length∧l0.length≤4) (E0:Nat→Value) (q:World) (K0:Wk w0 q [⟨w.heap.size,0,[By [103,114,111,115,115],.slice l l0.length j,By [116,105,109,101],.slice c l1.length a],90,true⟩] [BH w0 b ns,Bj b w,C5 l j l0,C5 c a l1] [])
  (s:∀ (l:Option Addr) (l0:List (Int×Int)) (j:Nat) (c:Option Addr) (l1:List (Int×Int)) (a:Nat) (E:Nat→Value) (wy:World),1≤l1.length→l1.length≤4→1≤l0.length→l0.length≤4→Wk w0 wy [⟨w.heap.size,0,[By [103,114,111,115,115],.slice l l0.length j,By [116,105,109,101],.slice c l1.length a],90,true⟩] [BH w0 b ns,Bj b w,C5 l j l0,C5 c a l1] []→At Tryz.prog 9 R (AY NH) (Fr 54 (BC E [(0,BY b),(3,.slice (IN w.heap.size) 2 2),(4,AI ((2:Nat):Int))])) wy) :
  At Tryz.prog 9 R NG (Fr 54 (BC E0 [(0,BY b),(3,.slice (IN w.heap.size) 2 2),(4,AI ((1:Nat):Int)),(5,AI (k:Int))])) q:=by
 refine Bd (by kernel_rfl) (fun E q=>∃ (k:Nat) (l:Option Addr) (l0:List (Int×Int)) (j:Nat) (c:Option Addr) (l1:List (Int×Int)) (a:Nat) (E0:Nat→Value),E=BC E0 [(0,BY b),(3,.slice (IN w.heap.size) 2 2),(4,AI ((1:Nat):Int)),(5,AI (k:Int))]∧(1≤l1.length + k∧l1.length + k≤4∧1≤l0.length∧l0.length≤4)∧Wk w0 q [⟨w.heap.size,0,[By [103,114,111,115,115],.slice l l0.length j,By [116,105,109,101],.slice c l1.length a],90,true⟩] [BH w0 b ns,Bj b w,C5 l j l0,C5 c a l1] []) (fun E _=>AK (E 5)) ⟨k,l,l0,j,c,l1,a,E0,rfl,x,K0⟩ ?_
 clear K0 x
 rintro E q ⟨k,l,l0,j,c,l1,a,E0,rfl,x,K1⟩ p
 refine AB Zt K1 [] fun w2 K2=>?_
 refine AG (decide (0 < (k:Int))) (fun cc=>?_) (fun cc=>?_)
 ·obtain ⟨k,rfl⟩:∃ m,k=m + 1:=⟨k - 1,by have:=of_decide_eq_true cc; omega⟩
  refine Am 8 Zs K2 [] fun w3 K3=>?_
  refine EV FA 14 ?_
  refine I6 (i:=0) (v:=.slice (IN w.heap.size) 2 2) (FA.getD 0 default) (by kernel_rfl) (by kernel_rfl) (by kernel_rfl) (by kernel_rfl) (by kernel_rfl) (by kernel_rfl) (fun _ _ _ h=>nomatch h.1) ?_
  refine I6 (i:=1) (v:=AI ((1:Nat):Int)) (FA.getD 1 default) (by kernel_rfl) (by kernel_rfl) (by kernel_rfl) (by kernel_rfl) (by kernel_rfl) (by kernel_rfl) (fun _ _ _ h=>nomatch h.1) ?_
  refine Dq (md:=.any) (fuel:=4) (L:=[BV 2 [] (.slice (IN w.heap.size) 2 2),BV 3 [] (AI ((1:Nat):Int)),BV 4 [2,3] (.pointer (some ⟨w.heap.size,0 + 1 * 2,none⟩)),BV 5 [2,3,4] (.pointer (some ⟨w.heap.size,0 + 1 * 2 + 1,none⟩)),BV 6 [2,3,4,5] (.slice c l1.length a),BV 7 [] (BY b),⟨8,[7],[8],fun vs _=>∃ n d:Int,vs=[.agg ⟨[AI n,AI d]⟩]⟩,⟨9,[7,8],[8,9],fun vs u=>∃ (n d:Int) (g:Nat),vs=[.agg ⟨[AI n,AI d]⟩,.slice (IN g) 1 1]∧Wk w0 u [⟨w.heap.size,0,[By [103,114,111,115,115],.slice l l0.length j,By [116,105,109,101],.slice c l1.length a],90,true⟩,⟨g,0,[AI n,AI d],41,true⟩] [BH w0 b ns,Bj b w,C5 l j l0,C5 c a l1] []⟩]) (W:=ny) (C:=fun u=>Wk w0 u [⟨w.heap.size,0,[By [103,114,111,115,115],.slice l l0.length j,By [116,105,109,101],.slice c l1.length a],90,true⟩] [BH w0 b ns,Bj b w,C5 l j l0,C5 c a l1] []) (Ext:=fun u u'=>∀ (g:Nat) (n d:Int),Wk w0 u [⟨w.heap.size,0,[By [103,114,111,115,115],.slice l l0.length j,By [116,105,109,101],.slice c l1.length a],90,true⟩,⟨g,0,[AI n,AI d],41,true⟩] [BH w0 b ns,Bj b w,C5 l j l0,C5 c a l1] []→Wk w0 u' [⟨w.heap.size,0,[By [103,114,111,115,115],.slice l l0.length j,By [116,105,109,101],.slice c l1.length a],90,true⟩,⟨g,0,[AI n,AI d],41,true⟩] [BH w0 b ns,Bj b w,C5 l j l0,C5 c a l1] []) (K3.below (Below.refl _ _).drew) (fun _ _ _ _ K=>K) (fun _ _ _ h1 h2 g n d K=>h2 g n d (h1 g n d K)) ⟨?_,?_,?_,?_,?_,?_,?_,?_,trivial⟩ rfl ?_
  ·exact ⟨fun _ _ _ _ _ h=>h,fun vals u hu hb=>AM.knownE [] trivial (AM.reads ⟨0,[],(0,0),[]⟩ (fun e he=>by cases he) (.slice (IN w.heap.size) 2 2) ⟨hu,fun _ _ _ K=>K,rfl⟩)⟩
  ·exact ⟨fun _ _ _ _ _ h=>h,fun vals u hu hb=>AM.knownE [] trivial (AM.reads ⟨0,[],(0,0),[]⟩ (fun e he=>by cases he) (AI ((1:Nat):Int)) ⟨hu,fun _ _ _ K=>K,rfl⟩)⟩
  ·refine ⟨fun _ _ _ _ _ h=>h,fun vals u hu hb=>?_⟩
   obtain ⟨h2,h3,_⟩:=hb
   exact AM.knownE [(22,2,.slice (IN w.heap.size) 2 2),(23,3,AI ((1:Nat):Int))] ⟨(List.cons.inj h2).1,(List.cons.inj h3).1,trivial⟩ (AM.value (BZ (sz:=2) (k:=1) (len:=2) (cap:=2) 35 (.tmp 22) (.tmp 23) (hx:=rfl) (hi:=rfl) (by decide) Tryz.underlying35) ⟨hu,fun _ _ _ K=>K,rfl⟩)
  ·refine ⟨fun _ _ _ _ _ h=>h,fun vals u hu hb=>?_⟩
   obtain ⟨h2,h3,h4,_⟩:=hb
   exact AM.knownE [(24,4,.pointer (some ⟨w.heap.size,0 + 1 * 2,none⟩))] ⟨(List.cons.inj h4).1,trivial⟩ (AM.reads ⟨0,[],(0,0),[]⟩ (fun e he=>by cases he) (.pointer (some ⟨w.heap.size,0 + 1 * 2 + 1,none⟩)) ⟨hu,fun _ _ _ K=>K,rfl⟩)
  ·refine ⟨fun _ _ _ _ _ h=>h,fun vals u hu hb=>?_⟩
   obtain ⟨h2,h3,h4,h5,_⟩:=hb
   exact AM.knownE [(25,5,.pointer (some ⟨w.heap.size,0 + 1 * 2 + 1,none⟩))] ⟨(List.cons.inj h5).1,trivial⟩ (AM.reads ⟨0,[⟨w.heap.size,0,[By [103,114,111,115,115],.slice l l0.length j,By [116,105,109,101],.slice c l1.length a],90,true⟩],(0,3),[]⟩ (fun e he=>by rw [List.mem_singleton.1 he]; exact hu.ent 0 rfl) (.slice c l1.length a) ⟨hu,fun _ _ _ K=>K,rfl⟩)
  ·exact ⟨fun _ _ _ _ _ h=>h,fun vals u hu hb=>AM.knownE [] trivial (AM.reads ⟨0,[],(0,0),[]⟩ (fun e he=>by cases he) (BY b) ⟨hu,fun _ _ _ K=>K,rfl⟩)⟩
  ·refine ⟨fun _ _ _ _ _ h=>h,fun vals u hu hb=>?_⟩
   obtain ⟨h7,_⟩:=hb
   refine AM.knownE [(27,7,BY b)] ⟨(List.cons.inj h7).1,trivial⟩ (AM.call (f:=26) [.tmp 27] (args:=[BY b]) (ats:=#[23]) rfl (CG _ u) ((KO b ns u (hu.tapeOk h0 0 rfl)).mono fun e w' hq=>?_))
   have o:=FR.ok _ _ hq
   have Kt:=hu.tick h0 0 rfl o.1 o.2
   obtain ⟨n,d,rfl,_,_⟩:=hq
   exact ⟨_,rfl,Kt,fun _ _ _ K=>K.tick h0 0 rfl o.1 o.2,n,d,rfl⟩
  ·refine ⟨fun vs u u' _ hE h=>?_,fun vals u hu hb=>?_⟩
   ·obtain ⟨n,d,g,hv,K⟩:=h
    exact ⟨n,d,g,hv,hE g n d K⟩
   ·obtain ⟨_,⟨n,d,h8⟩,_⟩:=hb
    refine AM.knownE [(28,8,.agg ⟨[AI n,AI d]⟩)] ⟨(List.cons.inj h8).1,trivial⟩ (AM.runsK ⟨u.heap.size,[],(0,0),[]⟩ ⟨u.heap.size + 1,[⟨u.heap.size,0,[AI n,AI d],41,true⟩],(0,0),[]⟩ (.value (.slice (IN u.heap.size) 1 1)) (.slice (IN u.heap.size) 1 1) (.inl rfl) (CH u) rfl fun w' hL hK=>?_)
    have B:Below u.heap.size u w':=CO hK
    have H:Ac u.heap.size w' ([⟨u.heap.size,0,[AI n,AI d],41,true⟩].map Th.ent++[]):=Ac.run (M:=[]) (Ac.nil (Nat.le_refl _)) hL hK rfl
    exact ⟨hu.below B,fun _ _ _ K=>K.below B,n,d,u.heap.size,by rw [← (List.cons.inj h8).1]; rfl,hu.joinE B H⟩
  intro vals w3 _ _ t
  obtain ⟨_,_,_,_,x6,_,_,⟨r,y,gn,x8,z⟩,_⟩:=t
  refine CI [(0,BY b),(3,.slice (IN w.heap.size) 2 2),(4,AI ((1:Nat):Int)),(5,AI ((k + 1:Nat):Int)),(20,.slice (IN w.heap.size) 2 2),(21,AI ((1:Nat):Int)),(26,vals 6),(29,vals 9)] fun E9=>?_
  rw [show vals 6=.slice c l1.length a from (List.cons.inj x6).1,show vals 9=.slice (IN gn) 1 1 from (List.cons.inj (List.cons.inj x8).2).1]
  obtain ⟨A2,c2,w5,a0,H5,b5⟩:=N8 (k:=54) (E:=_) z.H (z.ix 3) (z.at 3 rfl) (r,y) [AI r,AI y] rfl gn (z.ent 1 rfl) (FA.getD 10 default) (.tmp 26) (.tmp 29) 67 (by kernel_rfl) (by kernel_rfl) (by kernel_rfl) (by decide) (by kernel_rfl) (by kernel_rfl) rfl rfl (by omega)
  refine H3 (i:=10) (fuel:=3) (FA.getD 10 default) a0 ?_
  have K5:=z.put 3 (by simp) b5 H5
  refine H3 (i:=11) (fuel:=2) (FA.getD 11 default) (BZ (g:=w.heap.size) (off:=0) (sz:=2) (k:=1) (len:=2) (cap:=2) 35 (.tmp 20) (.tmp 21) (by decide) Tryz.underlying35) ?_
  refine Fq (i:=12) K5 (FA.getD 12 default) (0,0) (.pointer (some ⟨w.heap.size,0 + 1 * 2 + 1,none⟩)) fun w6 K6=>?_
  refine Ob (i:=13) K6 (FA.getD 13 default) [⟨w.heap.size,0,[By [103,114,111,115,115],.slice l l0.length j,By [116,105,109,101],.slice A2 (l1++[(r,y)]).length c2],90,true⟩,⟨gn,0,[AI r,AI y],41,true⟩] (0,3) undef fun w7 K7=>?_
  refine Em ⟨rfl,At.mid ?_⟩
  refine AB (AY NG) K7 [] fun w8 K8=>?_
  refine AU [(0,BY b),(3,.slice (IN w.heap.size) 2 2),(4,AI ((1:Nat):Int)),(5,AI (IntKind.i64.wrap (((k + 1:Nat):Int) - 1)))] fun E8=>?_
  rw [show IntKind.i64.wrap (((k + 1:Nat):Int) - 1)=(k:Int) by rw [IntWalk.i64_in _ (by omega)]; omega]
  refine p _ _ ⟨k,l,l0,j,A2,l1++[(r,y)],c2,E8,rfl,by rw [List.length_append,List.length_singleton]; omega,K8.pk [0] [0,1,2,3]⟩ ?_
  show AK (AI ((k:Nat):Int)) < AK (AI ((k + 1:Nat):Int))
  simp only [AK]
  omega
 ·have b0:k=0:=by have:=of_decide_eq_false cc; omega
  subst b0
  refine AB (AY NH) K2 [] fun w3 K3=>?_
  refine AU [(0,BY b),(3,.slice (IN w.heap.size) 2 2),(4,AI (IntKind.i64.wrap (((1:Nat):Int) + 1)))] fun E3=>?_
  rw [Bc 1 (by omega)]
  exact s l l0 j c l1 a E3 w3 (by omega) (by omega) x.2.2.1 x.2.2.2 K3
theorem nD (b:Nat) (ns:List Int) (w:World) (hT:BW b ns w):Calls Tryz.prog 9 ([BY b]:List Value).toArray w fun e w'=>∃ A c,∃ pa:List Dn,∃ L':List Th,e=.returned (.slice A pa.length c)∧pa.length≤2∧(∀ x∈pa,x.2.length≤4)∧Ac (b + 1) w' L'∧(∀ u,Ac (b + 1) u L'→EE u A pa)∧BW b ns w'∧CE b w w':=by
 refine AR (args:=[BY b]) (fn:=Tryz.f9) (c:=YL) (n:=54) ?_
 obtain ⟨w0,j,K0⟩:=Wk.tape hT
 have hw:=K0.B
 have d0:=hT.lt
 refine Af NH [⟨w.heap.size,0,[By [103,114,111,115,115],.slice none 0 0,By [116,105,109,101],.slice none 0 0],90,true⟩] K0 [] fun w1 K1=>?_
 have K2:=(K1.addNil 41 2 (fun (e:Int×Int) r=>r=BP e)).addNil 41 2 (fun (e:Int×Int) r=>r=BP e)
 refine AU [(0,BY b),(3,.slice (IN w.heap.size) 2 2),(4,AI ((0:Nat):Int))] fun E1=>?_
 refine Bd (by kernel_rfl) (fun E wx=>∃ (i:Nat) (A0:Option Addr) (l0:List (Int×Int)) (m:Nat) (A1:Option Addr) (l1:List (Int×Int)) (l:Nat) (E0:Nat→Value),E=BC E0 [(0,BY b),(3,.slice (IN w.heap.size) 2 2),(4,AI (i:Int))]∧((i=0∧l0.length=0∧l1.length=0)∨(i=1∧1≤l0.length∧l0.length≤4∧l1.length=0)∨(i=2∧1≤l0.length∧l0.length≤4∧1≤l1.length∧l1.length≤4))∧Wk w0 wx [⟨w.heap.size,0,[By [103,114,111,115,115],.slice A0 l0.length m,By [116,105,109,101],.slice A1 l1.length l],90,true⟩] [BH w0 b ns,Bj b w,C5 A0 m l0,C5 A1 l l1] []) (fun E _=>2 - AK (E 4)) ⟨0,none,[],0,none,[],0,E1,rfl,.inl ⟨rfl,rfl,rfl⟩,K2⟩ ?_
 clear K0 K1 K2
 rintro E wx ⟨i,A0,l0,m,A1,l1,l,E0,rfl,hI,K1⟩ s
 refine AB Zu K1 [] fun w2 K2=>?_
 refine AG (decide ((i:Int) < 2)) (fun cc=>?_) (fun cc=>?_)
 ·refine AB pi K2 [] fun w3 K3=>?_
  refine BE K3 j 0 rfl (args:=[BY b,AI 4]) (BM b ns 4 w3 (K3.tapeOk j 0 rfl) (by omega) (by omega)) BQ.ok fun e w4 z K4=>?_
  obtain ⟨k,hk,rfl,_,_⟩:=z
  refine ⟨_,rfl,?_⟩
  have q0:k≤3:=by omega
  refine AB NG K4 [] fun w5 K5=>?_
  refine AU [(0,BY b),(3,.slice (IN w.heap.size) 2 2),(4,AI (i:Int)),(5,AI (IntKind.i64.wrap (1 + (k:Int))))] fun E5=>?_
  rw [show IntKind.i64.wrap (1 + (k:Int))=((k + 1:Nat):Int) by rw [IntWalk.i64_in _ (by omega)]; omega]
  rcases hI with ⟨rfl,h1,h2⟩ | ⟨rfl,h1,h2,h3⟩ | ⟨rfl,_⟩
  ·refine nC j d0 ⟨by omega,by omega,h2⟩ E5 w5 K5 fun A0 l0 m A1 l1 l E6 w6 g1 g2 g3 K6=>?_
   refine s _ _ ⟨1,A0,l0,m,A1,l1,l,E6,rfl,.inr (.inl ⟨rfl,g1,g2,g3⟩),K6⟩ ?_
   show 2 - AK (AI ((1:Nat):Int)) < 2 - AK (AI ((0:Nat):Int))
   decide
  ·refine nB j d0 ⟨by omega,by omega,h1,h2⟩ E5 w5 K5 fun A0 l0 m A1 l1 l E6 w6 g1 g2 g3 g4 K6=>?_
   refine s _ _ ⟨2,A0,l0,m,A1,l1,l,E6,rfl,.inr (.inr ⟨rfl,g3,g4,g1,g2⟩),K6⟩ ?_
   show 2 - AK (AI ((2:Nat):Int)) < 2 - AK (AI ((1:Nat):Int))
   decide
  ·exact absurd cc (by decide)
 have m0:1≤l0.length∧l0.length≤4∧1≤l1.length∧l1.length≤4:=by
  have:=of_decide_eq_false cc
  omega
 clear hI s
 obtain ⟨e1,e2,e3,e4⟩:=m0
 refine AB ph K2 [] fun w3 K3=>?_
 refine BE K3 j 0 rfl (args:=[BY b,AI 10]) (BM b ns 10 w3 (K3.tapeOk j 0 rfl) (by omega) (by omega)) BQ.ok fun e w4 z K4=>?_
 obtain ⟨k,hk,rfl,_,_⟩:=z
 refine ⟨_,rfl,?_⟩
 refine AB Zr K4 [] fun w5 K5=>?_
 refine AG ((k:Int) == 8) (fun p0=>?_) (fun p0=>?_)
 ·refine AB Zq K5 [] fun w6 K6=>?_
  refine BE K6 j 0 rfl (args:=[BY b,AI 2]) (BM b ns 2 w6 (K6.tapeOk j 0 rfl) (by omega) (by omega)) BQ.ok fun e w7 z K7=>?_
  obtain ⟨q,k0,rfl,_,_⟩:=z
  refine ⟨_,rfl,?_⟩
  have j0:q < 2:=by omega
  refine Ae Aa pe K7 [] fun w8 K8=>?_
  refine Au (g:=w.heap.size) (off:=0) (cap:=2) (sz:=2) (k:=q) (len:=2) (some 40) j0 Tryz.underlying35 ?_
  have K9:=K8.addNil 41 2 (fun (e:Int×Int) r=>r=BP e)
  have p:q=0∨q=1:=by omega
  rcases p with rfl | rfl
  ·refine Af fS [⟨w.heap.size,0,[By [103,114,111,115,115],.slice none 0 0,By [116,105,109,101],.slice A1 l1.length l],90,true⟩] K9 [(0,1)] fun a0 a=>?_
   exact AJ a (0,0) (.slice (IN w.heap.size) 2 2) (Jo (l0:=[]) (a.pk [0] [0,1,4,3]) j hw (by simp) e4)
  ·refine Af fS [⟨w.heap.size,0,[By [103,114,111,115,115],.slice A0 l0.length m,By [116,105,109,101],.slice none 0 0],90,true⟩] K9 [(0,3)] fun a0 a=>?_
   exact AJ a (0,0) (.slice (IN w.heap.size) 2 2) (Jo (l1:=[]) (a.pk [0] [0,1,2,4]) j hw e2 (by simp))
 refine AB Ta K5 [] fun w6 K6=>?_
 refine AG ((k:Int) == 9) (fun n0=>?_) (fun n0=>?_)
 ·refine Am 13 TZ K6 [] fun w7 K7=>?_
  obtain ⟨x0,t0,rfl⟩:∃ x t,l0=x :: t:=by cases l0 with | nil=>simp at e1 | cons x t=>exact ⟨x,t,rfl⟩
  obtain ⟨x1,t1,rfl⟩:∃ x t,l1=x :: t:=by cases l1 with | nil=>simp at e3 | cons x t=>exact ⟨x,t,rfl⟩
  obtain ⟨g0,rfl,_⟩:=K7.H.rowAt (K7.ix 2) (K7.at 2 rfl) (by simp)
  obtain ⟨g1,rfl,_⟩:=K7.H.rowAt (K7.ix 3) (K7.at 3 rfl) (by simp)
  refine EV Id 10 ?_
  refine Dq (md:=.any) (fuel:=2) (L:=[BV 0 [] (.slice (IN w.heap.size) 2 2),BV 1 [] (BY b),⟨2,[1],[2],fun v _=>v=[AI ((0:Nat):Int)]∨v=[AI ((1:Nat):Int)]⟩,⟨3,[0,1,2],[2,3],fun v _=>(v=[AI ((0:Nat):Int),.pointer (some ⟨w.heap.size,0 + 0 * 2,none⟩)]∨v=[AI ((1:Nat):Int),.pointer (some ⟨w.heap.size,0 + 1 * 2,none⟩)])⟩,⟨4,[0,1,2,3],[2,4],fun v _=>(v=[AI ((0:Nat):Int),.pointer (some ⟨w.heap.size,0 + 0 * 2 + 1,none⟩)]∨v=[AI ((1:Nat):Int),.pointer (some ⟨w.heap.size,0 + 1 * 2 + 1,none⟩)])⟩,⟨5,[0,1,2,3,4],[2,5],fun v _=>(v=[AI ((0:Nat):Int),.slice (IN g0) (x0 :: t0).length m]∨v=[AI ((1:Nat):Int),.slice (IN g1) (x1 :: t1).length l])⟩,BV 6 [] (BY b),⟨7,[1,2,6],[7],fun v _=>∃ n d:Int,v=[.agg ⟨[AI n,AI d]⟩]⟩]) (W:=tf) (C:=fun u=>Wk w0 u [⟨w.heap.size,0,[By [103,114,111,115,115],.slice (IN g0) (x0 :: t0).length m,By [116,105,109,101],.slice (IN g1) (x1 :: t1).length l],90,true⟩] [BH w0 b ns,Bj b w,C5 (IN g0) m (x0 :: t0),C5 (IN g1) l (x1 :: t1)] []) (Ext:=fun _ _=>True) (K7.below (Below.refl _ _).drew) (fun _=>trivial) (fun _ _ _ _ _=>trivial) ⟨?_,?_,?_,?_,?_,?_,?_,?_,trivial⟩ rfl ?_
  ·exact ⟨fun _ _ _ _ _ h=>h,fun vals u hu hb=>AM.knownE [] trivial (AM.reads ⟨0,[],(0,0),[]⟩ (fun e he=>by cases he) (.slice (IN w.heap.size) 2 2) ⟨hu,trivial,rfl⟩)⟩
  ·exact ⟨fun _ _ _ _ _ h=>h,fun vals u hu hb=>AM.knownE [] trivial (AM.reads ⟨0,[],(0,0),[]⟩ (fun e he=>by cases he) (BY b) ⟨hu,trivial,rfl⟩)⟩
  ·refine ⟨fun _ _ _ _ _ h=>h,fun vals u hu hb=>?_⟩
   obtain ⟨h1,_⟩:=hb
   refine AM.knownE [(45,1,BY b)] ⟨(List.cons.inj h1).1,trivial⟩ (AM.call (f:=12) [.tmp 45,.const (AI 2)] (args:=[BY b,AI 2]) (ats:=#[23,3]) rfl (CG _ u) ((BM b ns 2 u (hu.tapeOk j 0 rfl) (by omega) (by omega)).mono fun e w' z=>?_))
   have Kt:=hu.tick j 0 rfl (BQ.ok _ _ z).1 (BQ.ok _ _ z).2
   obtain ⟨q,k0,rfl,_,_⟩:=z
   have p:q=0∨q=1:=by omega
   rcases p with rfl | rfl
   ·exact ⟨_,rfl,Kt,trivial,.inl rfl⟩
   ·exact ⟨_,rfl,Kt,trivial,.inr rfl⟩
  ·refine ⟨fun _ _ _ _ _ h=>h,fun vals u hu hb=>?_⟩
   obtain ⟨i0,h1,h2,_⟩:=hb
   rcases h2 with h2 | h2
   ·exact AM.knownE [(44,0,.slice (IN w.heap.size) 2 2),(46,2,AI ((0:Nat):Int))] ⟨(List.cons.inj i0).1,(List.cons.inj h2).1,trivial⟩ (AM.value (BZ (sz:=2) (k:=0) (len:=2) (cap:=2) 35 (.tmp 44) (.tmp 46) (hx:=rfl) (hi:=rfl) (by decide) Tryz.underlying35) ⟨hu,trivial,.inl (by rw [← (List.cons.inj h2).1]; rfl)⟩)
   ·exact AM.knownE [(44,0,.slice (IN w.heap.size) 2 2),(46,2,AI ((1:Nat):Int))] ⟨(List.cons.inj i0).1,(List.cons.inj h2).1,trivial⟩ (AM.value (BZ (sz:=2) (k:=1) (len:=2) (cap:=2) 35 (.tmp 44) (.tmp 46) (hx:=rfl) (hi:=rfl) (by decide) Tryz.underlying35) ⟨hu,trivial,.inr (by rw [← (List.cons.inj h2).1]; rfl)⟩)
  ·refine ⟨fun _ _ _ _ _ h=>h,fun vals u hu hb=>?_⟩
   obtain ⟨_,_,_,h3,_⟩:=hb
   rcases h3 with h3 | h3
   ·exact AM.knownE [(47,3,.pointer (some ⟨w.heap.size,0 + 0 * 2,none⟩))] ⟨(List.cons.inj (List.cons.inj h3).2).1,trivial⟩ (AM.reads ⟨0,[],(0,0),[]⟩ (fun e he=>by cases he) (.pointer (some ⟨w.heap.size,0 + 0 * 2 + 1,none⟩)) ⟨hu,trivial,.inl (by rw [← (List.cons.inj h3).1]; rfl)⟩)
   ·exact AM.knownE [(47,3,.pointer (some ⟨w.heap.size,0 + 1 * 2,none⟩))] ⟨(List.cons.inj (List.cons.inj h3).2).1,trivial⟩ (AM.reads ⟨0,[],(0,0),[]⟩ (fun e he=>by cases he) (.pointer (some ⟨w.heap.size,0 + 1 * 2 + 1,none⟩)) ⟨hu,trivial,.inr (by rw [← (List.cons.inj h3).1]; rfl)⟩)
  ·refine ⟨fun _ _ _ _ _ h=>h,fun vals u hu hb=>?_⟩
   obtain ⟨_,_,_,_,h4,_⟩:=hb
   rcases h4 with h4 | h4
   ·exact AM.knownE [(48,4,.pointer (some ⟨w.heap.size,0 + 0 * 2 + 1,none⟩))] ⟨(List.cons.inj (List.cons.inj h4).2).1,trivial⟩ (AM.reads ⟨0,[⟨w.heap.size,0,[By [103,114,111,115,115],.slice (IN g0) (x0 :: t0).length m,By [116,105,109,101],.slice (IN g1) (x1 :: t1).length l],90,true⟩],(0,1),[]⟩ (fun e he=>by rw [List.mem_singleton.1 he]; exact hu.ent 0 rfl) (.slice (IN g0) (x0 :: t0).length m) ⟨hu,trivial,.inl (by rw [← (List.cons.inj h4).1]; rfl)⟩)
   ·exact AM.knownE [(48,4,.pointer (some ⟨w.heap.size,0 + 1 * 2 + 1,none⟩))] ⟨(List.cons.inj (List.cons.inj h4).2).1,trivial⟩ (AM.reads ⟨0,[⟨w.heap.size,0,[By [103,114,111,115,115],.slice (IN g0) (x0 :: t0).length m,By [116,105,109,101],.slice (IN g1) (x1 :: t1).length l],90,true⟩],(0,3),[]⟩ (fun e he=>by rw [List.mem_singleton.1 he]; exact hu.ent 0 rfl) (.slice (IN g1) (x1 :: t1).length l) ⟨hu,trivial,.inr (by rw [← (List.cons.inj h4).1]; rfl)⟩)
  ·exact ⟨fun _ _ _ _ _ h=>h,fun vals u hu hb=>AM.knownE [] trivial (AM.reads ⟨0,[],(0,0),[]⟩ (fun e he=>by cases he) (BY b) ⟨hu,trivial,rfl⟩)⟩
  ·refine ⟨fun _ _ _ _ _ h=>h,fun vals u hu hb=>?_⟩
   obtain ⟨_,_,h6,_⟩:=hb
   refine AM.knownE [(50,6,BY b)] ⟨(List.cons.inj h6).1,trivial⟩ (AM.call (f:=27) [.tmp 50] (args:=[BY b]) (ats:=#[23]) rfl (CG _ u) ((Mn b ns u (hu.tapeOk j 0 rfl)).mono fun e w' z=>?_))
   have Kt:=hu.tick j 0 rfl (FR.ok _ _ z).1 (FR.ok _ _ z).2
   obtain ⟨n,d,rfl,_,_⟩:=z
   exact ⟨_,rfl,Kt,trivial,n,d,rfl⟩
  intro vals w8 K8 _ e0
  obtain ⟨_,_,x2,_,_,x5,_,⟨nn,dd,x7⟩,_⟩:=e0
  refine CI [(3,.slice (IN w.heap.size) 2 2),(49,vals 5),(51,vals 7)] fun E9=>?_
  rw [show vals 7=.agg ⟨[AI nn,AI dd]⟩ from (List.cons.inj x7).1]
  rcases x5 with x5 | x5
  ·rw [show vals 5=.slice (IN g0) (x0 :: t0).length m from (List.cons.inj (List.cons.inj x5).2).1]
   refine H3 (i:=8) (fuel:=1) (Id.getD 8 default) (BZ (g:=g0) (off:=0) (sz:=2) (k:=0) (len:=(x0 :: t0).length) (cap:=m) 67 (.tmp 49) (.const (AI 0)) (Nat.succ_pos _) Tryz.underlying67) ?_
   obtain ⟨w9,b0,H9,b9⟩:=Pe (ρ:=Ax 54 _) (o:=Id.getD 9 default) (f:=BP) (e':=(nn,dd)) (fun _=>rfl) K8.H (K8.ix 2) (K8.at 2 rfl) (t:=41) (x:=.tmp 52) (y:=.tmp 51) (by kernel_rfl) (by kernel_rfl) (by kernel_rfl) (by kernel_rfl) rfl
   refine LS (i:=9) (fuel:=0) (Id.getD 9 default) (by kernel_rfl) (by kernel_rfl) (by kernel_rfl) b0 (Em ⟨rfl,At.mid ?_⟩)
   have K9:=K8.put 2 (by simp) b9 H9
   refine AB fR K9 [] fun a0 a=>?_
   exact AJ a (0,0) (.slice (IN w.heap.size) 2 2) (Jo (l0:=(nn,dd) :: t0) (l1:=x1 :: t1) (a.pk [0] [0,1,2,3]) j hw e2 e4)
  ·rw [show vals 5=.slice (IN g1) (x1 :: t1).length l from (List.cons.inj (List.cons.inj x5).2).1]
   refine H3 (i:=8) (fuel:=1) (Id.getD 8 default) (BZ (g:=g1) (off:=0) (sz:=2) (k:=0) (len:=(x1 :: t1).length) (cap:=l) 67 (.tmp 49) (.const (AI 0)) (Nat.succ_pos _) Tryz.underlying67) ?_
   obtain ⟨w9,b0,H9,b9⟩:=Pe (ρ:=Ax 54 _) (o:=Id.getD 9 default) (f:=BP) (e':=(nn,dd)) (fun _=>rfl) K8.H (K8.ix 3) (K8.at 3 rfl) (t:=41) (x:=.tmp 52) (y:=.tmp 51) (by kernel_rfl) (by kernel_rfl) (by kernel_rfl) (by kernel_rfl) rfl
   refine LS (i:=9) (fuel:=0) (Id.getD 9 default) (by kernel_rfl) (by kernel_rfl) (by kernel_rfl) b0 (Em ⟨rfl,At.mid ?_⟩)
   have K9:=K8.put 3 (by simp) b9 H9
   refine AB fR K9 [] fun a0 a=>?_
   exact AJ a (0,0) (.slice (IN w.heap.size) 2 2) (Jo (l0:=x0 :: t0) (l1:=(nn,dd) :: t1) (a.pk [0] [0,1,2,3]) j hw e2 e4)
 ·refine AB uk K6 [] fun w7 K7=>?_
  exact AJ K7 (0,0) (.slice (IN w.heap.size) 2 2) (Jo K7 j hw e2 e4)
end
end Go.Proofs.YtkjbdagicjbjjaaGreat

/- Contracts of functions, part 4. -/
import Derived.Test.YtkjbdagicjbjjaaGreatTs02
import Derived.Deep.QuietTactic
import Derived.BigQuiet
import Derived.IntWalk
import Derived.Test.YtkjbdagicjbjjaaGreatRows
import Derived.WalkKit
import Derived.ProofKit
import Derived.OpenShut
import Derived.Deep.DeepHandedRow
import Derived.Lib.LaidTab
import Derived.Stop.LaidErr
import Derived.Lib.SmallJoins
import Derived.Test.YtkjbdagicjbjjaaGreatTs03
import Derived.Below
set_option linter.all false
namespace Go.Proofs.YtkjbdagicjbjjaaGreat
open Go.RowKit
theorem Be.drewN {b:Nat} {ns:List Int} {w:World} (h:Be b ns w) (n:Nat):Be b ns (w.drewN n):=h.below (GB (Below.refl _ _) n)
theorem fg {w:World} {b i:Nat} {a:Array Value} {t:TypeId} {fr:Nat×Nat} (h:w.heap[b]?=some (.cells a t fr)) (x:Value):(w.setCell ⟨b,i,none⟩ x).heap[b]?=some (.cells (a.setIfInBounds i x) t fr):=by
 simp [World.setCell,Array.getElem?_modify,h]
set_option maxHeartbeats 1000000 in
set_option maxRecDepth 100000 in
theorem BR (b:Nat) (ns:List Int) (n:Int) (w:World) (h:Be b ns w) (hn0:-9223372036854775808≤n) (hn:n≤2000000000000) :
  Calls Tryz.prog 12 #[ζ b,δ n] w (BX b ns n w):=by
 have HT:=Lib.hid h
 have hlt:=h.lt
 obtain ⟨v,k,hk,hb,hi⟩:=h
 obtain ⟨A,c,rfl,hm,hx,hc⟩:=hi
 have HB:=Lib.hid hb
 have c0:=Lib.cell_of_heap hb 0
 have c1:=Lib.cell_of_heap hb 1
 simp only [List.getElem?_toArray,List.getElem?_cons_zero,List.getElem?_cons_succ] at c0 c1
 have f1:=Lib.frozen_of_heap hb 1
 unfold maxLen at hm
 clear hb
 by_cases h1:n < 1
 ·clear hc hx
  go_enter Tryz.func12,Tryz.ntmps12
  go_wp2_with fail
  go_quiet (fail)
  go_wp2_with fail
  go_ret
  exact ⟨0,.inl rfl,rfl,HT.out.drewN _,(CG.refl _ _).drewN _⟩
 have hd1:decide (n < 1)=false:=decide_eq_false h1
 by_cases h2:ns.length≤k
 ·have hd2:decide (ns.length≤k)=true:=decide_eq_true h2
  clear hc hx
  go_enter Tryz.func12,Tryz.ntmps12
  go_wp2_with fail
  go_quiet (fail)
  go_wp2_with fail
  go_ret
  exact ⟨0,.inl rfl,rfl,HT.out.drewN _,(CG.refl _ _).drewN _⟩
 have hd2:decide (ns.length≤k)=false:=decide_eq_false h2
 obtain ⟨g,off,rfl,hg,hcell⟩:=hc (by omega)
 have hck:=hcell k (by omega)
 obtain ⟨x,hx0⟩:∃ x,ns[k]=x:=⟨_,rfl⟩
 have hxb:=hx ns[k] (List.getElem_mem _)
 rw [hx0] at hck hxb
 obtain ⟨hxl,hxu⟩:=hxb
 clear hx hx0 hc hcell
 go_enter Tryz.func12,Tryz.ntmps12
 go_wp2_with fail
 go_quiet (fail)
 go_wp2_with fail
 have hb1:((w.drewN nq).setCell ⟨b,1,none⟩ (δ ((k:Int) + 1))).heap[b]?=some (.cells #[τ (some ⟨g,off,none⟩) ns.length c,δ ((k:Int) + 1)] 62 (0,0)):=fg (w:=w.drewN nq) (i:=1) HB.out _
 have hck1:((w.drewN nq).setCell ⟨b,1,none⟩ (δ ((k:Int) + 1))).cell? ⟨g,off + k,none⟩=some (δ x):=by
  rw [World.cell?_of_block (w:=w) (Below.heap_setCell (w.drewN nq) _ _ _ (by simp; omega))]
  exact hck
 have hB1:CG b w ((w.drewN nq).setCell ⟨b,1,none⟩ (δ ((k:Int) + 1))):=((CG.refl b w).drewN nq).setCell rfl _
 clear c0 c1 f1 hck hd1 hd2
 generalize (w.drewN nq).setCell ⟨b,1,none⟩ (δ ((k:Int) + 1))=w1 at *
 have HT1:Hid (Be b ns w1):=by
  obtain ⟨v,k',hk',hb',hi⟩:=HT.out
  refine ⟨_,k + 1,by omega,hb1,?_⟩
  have hv:v=τ (some ⟨g,off,none⟩) ns.length c:=by
   have:=HB.out
   rw [hb'] at this
   simp at this
   exact this.1
  rw [← hv]
  exact hi.keep (fun g hg=>hB1.block g (by omega) (by omega))
 have c0:=Lib.cell_of_heap hb1 0
 have c1:=Lib.cell_of_heap hb1 1
 simp only [List.getElem?_toArray,List.getElem?_cons_zero,List.getElem?_cons_succ] at c0 c1
 clear hb1 HB HT
 have hkn:(k:Int) < ns.length:=by omega
 go_quiet ((go_at_call 13; exact Q4 (wM _ _ _ (by omega) (by omega) (by omega) (by omega))))
 go_wp2_with fail
 go_ret
 have hm0:=Int.emod_nonneg x (show n≠0 by omega)
 have hm1:=Int.emod_lt_of_pos x (show 0 < n by omega)
 obtain ⟨r,hr⟩:=Int.eq_ofNat_of_zero_le hm0
 exact ⟨r,.inr (by omega),Em hr,HT1.out.drewN _,hB1.drewN _⟩
theorem YK (v:Value) (ns:List Int) (w:World) (h:Hu w (ε w) v ns) :
  Calls Tryz.prog 5 #[v] w fun e w'=>e=.returned (ζ (ε w))∧Be (ε w) ns w'∧(ε w) < (ε w')∧Below (ε w) w w':=by
 have a:=Lib.hid h
 obtain ⟨A,c,rfl,_⟩:=h
 go_enter Tryz.func5,Tryz.ntmps5
 go_wp2_with fail
 go_ret
 refine ⟨rfl,⟨_,0,Nat.zero_le _,heap_alloc_new w _,a.out.keep (fun g hg=>Below.heap_alloc _ _ _ hg)⟩,by simp,(Below.refl _ _).alloc (Nat.le_refl _) _⟩
set_option maxHeartbeats 1000000 in
theorem Mp (a b:Nat) (w:World) (ha:a≤4000000000000000000) (hb:b≤4000000000000000000) :
  Calls Tryz.prog 94 #[.int .u64 a,.int .u64 b] w fun e w'=>e=.returned (.int .u64 (Nat.gcd a b))∧∃ n,w'=w.drewN n:=by
 generalize hG:Nat.gcd a b=G
 have HG:=Lib.hid hG
 clear hG
 go_enter Tryz.func94,Tryz.ntmps94
 go_wp2_with fail
 go_loopw [0,1] (fun p q wr=>∃ x y n:Nat,x≤4000000000000000000∧y≤4000000000000000000∧p=.int .u64 x∧q=.int .u64 y∧Hid (Nat.gcd x y=G)∧wr=w.drewN n) (fun _ q _=>(intOf q).toNat)
 case atStart=>exact ⟨a,b,0,ha,hb,rfl,rfl,HG,rfl⟩
 case round=>
  obtain ⟨x,y,n,hx,hy,rfl,rfl,HX,rfl⟩:=hrel
  by_cases hy0:y=0
  ·subst hy0
   go_wp2_with fail
   go_ret
   exact ⟨Em (by rw [← HX.out]; simp),n,rfl⟩
  have g1:((y:Int) != 0)=true:=by simp; omega
  have g2:((y:Int) == 0)=false:=by simp; omega
  have hyp:1≤y:=by omega
  have hm:=Nat.mod_lt x hyp
  have HN:Hid (Nat.gcd y (x % y)=G):=by
   show _=_
   rw [← HX.out,Nat.gcd_comm x y,Nat.gcd_rec y x,Nat.gcd_comm]
  clear hy0
  go_wp2_with fail
  go_quiet (fail)
  go_wp2_with fail
  go_roundw
  case rel=>exact ⟨y,x % y,_,by omega,by omega,rfl,by go_num,HN,World.drewN_drewN _ _ _⟩
  case measure=>simp [intOf]; omega
def Kq (neg:Bool) (n d:Nat):Int×Int×Int:=
 match Tk.newR n d with
 | none=>(0,0,4)
 | some (a,b)=>(if neg=true then -(a:Int) else a,b,0)
def Q2 (x:Int×Int×Int):Ending:=.returned (.tuple #[.agg #[δ x.1,δ x.2.1],δ x.2.2])
theorem Ly (n:Int) (w:World) (b:-4000000000000000000≤n) (a:n≤4000000000000000000) :
  Calls Tryz.prog 95 #[δ n] w fun e w'=>e=.returned (.int .u64 (n.natAbs:Nat))∧w=w':=by
 by_cases hn:n < 0
 ·go_enter Tryz.func95,Tryz.ntmps95
  go_wp2_with fail
  go_ret
  refine ⟨Em ?_,rfl⟩
  simp only [IntKind.wrap_u64]
  omega
 go_enter Tryz.func95,Tryz.ntmps95
 go_wp2_with fail
 go_ret
 exact ⟨Em (by first | omega | (simp only [IntKind.wrap_u64]; omega)),rfl⟩
theorem Po {neg:Bool} {n d G a b:Nat} (h:Hid (Nat.gcd n d=G)) (g:n / G=a) (h2:d / G=b) (e:a≤1000000000000) (c:b≤1000000):Kq neg n d=(if neg=true then -(a:Int) else a,(b:Int),0):=by
 have f:=h.out
 unfold Kq Tk.newR
 rw [f,g,h2,if_neg (by omega)]
theorem XU {neg:Bool} {n d G b a:Nat} (g:Hid (Nat.gcd n d=G)) (f:n / G=b) (h2:d / G=a) (c:1000000000000 < b∨1000000 < a):Kq neg n d=(0,0,4):=by
 have e:=g.out
 unfold Kq Tk.newR
 rw [e,f,h2,if_pos c]
set_option maxHeartbeats 1000000 in
theorem wU (neg:Bool) (n d:Nat) (w:World) (hn:n≤4000000000000000000) (hd0:1≤d) (hd:d≤4000000000000000000) :
  Calls Tryz.prog 98 #[ξ neg,.int .u64 n,.int .u64 d] w fun e w'=>e=Q2 (Kq neg n d)∧Below (ε w) w w':=by
 have hg0:1≤Nat.gcd n d:=Nat.gcd_pos_of_pos_right _ hd0
 generalize hG:Nat.gcd n d=G at *
 have HG:=Lib.hid hG
 clear hG
 obtain ⟨q1,h1⟩:∃ q,n / G=q:=⟨_,rfl⟩
 obtain ⟨q2,h2⟩:∃ q,d / G=q:=⟨_,rfl⟩
 have b1:q1≤4000000000000000000:=by rw [← h1]; exact Nat.le_trans (Nat.div_le_self _ _) hn
 have b2:q2≤4000000000000000000:=by rw [← h2]; exact Nat.le_trans (Nat.div_le_self _ _) hd
 have e1:IntKind.u64.wrap ((n:Int) / (G:Int))=(q1:Int):=by
  rw [← Int.natCast_ediv,h1]; exact IntWalk.u64_in _ (by omega)
 have e2:IntKind.u64.wrap ((d:Int) / (G:Int))=(q2:Int):=by
  rw [← Int.natCast_ediv,h2]; exact IntWalk.u64_in _ (by omega)
 by_cases hA:1000000000000 < q1∨1000000 < q2
 ·have HF:Hid (Kq neg n d=(0,0,4)):=XU HG h1 h2 hA
  have HE1:=Lib.hid e1
  have HE2:=Lib.hid e2
  have HA:1000000000000 < q1∨(¬ 1000000000000 < q1∧1000000 < q2):=by omega
  clear h1 h2 e1 e2 hA
  rcases HA with hA | ⟨hA1,hA2⟩
  ·go_enter Tryz.func98,Tryz.ntmps98
   go_wp2_with fail
   refine (Mp _ _ _ hn hd).mono ?_
   rintro e w' ⟨rfl,nq,rfl⟩
   rw [HG.out]
   have e1:=HE1.out
   have e2:=HE2.out
   go_wp2_with fail
   go_quiet (fail)
   clear e1 e2
   go_wp2_with fail
   refine bodyPost_ret (v:=.tuple #[.agg #[δ 0,δ 0],δ 4]) (by simp [results,Tryz.results98,go_sem]) rfl ⟨by rw [HF.out]; rfl,?_⟩
   exact ((GB ((Below.refl _ _).alloc (Nat.le_refl _) _) _).setCell (by simp) _).setCell (by simp) _
  go_enter Tryz.func98,Tryz.ntmps98
  go_wp2_with fail
  refine (Mp _ _ _ hn hd).mono ?_
  rintro e w' ⟨rfl,nq,rfl⟩
  rw [HG.out]
  have e1:=HE1.out
  have e2:=HE2.out
  go_wp2_with fail
  go_quiet (fail)
  clear e1 e2
  go_wp2_with fail
  refine bodyPost_ret (v:=.tuple #[.agg #[δ 0,δ 0],δ 4]) (by simp [results,Tryz.results98,go_sem]) rfl ⟨by rw [HF.out]; rfl,?_⟩
  exact ((GB ((Below.refl _ _).alloc (Nat.le_refl _) _) _).setCell (by simp) _).setCell (by simp) _
 have HF:Hid (Kq neg n d=(if neg=true then -(q1:Int) else q1,(q2:Int),0)):=Po HG h1 h2 (by omega) (by omega)
 have HE1:=Lib.hid e1
 have HE2:=Lib.hid e2
 have hA1:q1≤1000000000000:=by omega
 have hA2:q2≤1000000:=by omega
 clear h1 h2 e1 e2 hA
 cases neg
 ·go_enter Tryz.func98,Tryz.ntmps98
  go_wp2_with fail
  refine (Mp _ _ _ hn hd).mono ?_
  rintro e w' ⟨rfl,nq,rfl⟩
  rw [HG.out]
  have e1:=HE1.out
  have e2:=HE2.out
  go_wp2_with fail
  go_quiet (fail)
  clear e1 e2
  go_wp2_with fail
  refine bodyPost_ret (v:=.tuple #[.agg #[δ q1,δ q2],δ 0]) (by simp [results,Tryz.results98,go_sem]) rfl ⟨by rw [HF.out]; rfl,?_⟩
  exact ((GB ((Below.refl _ _).alloc (Nat.le_refl _) _) _).setCell (by simp) _).setCell (by simp) _
 go_enter Tryz.func98,Tryz.ntmps98
 go_wp2_with fail
 refine (Mp _ _ _ hn hd).mono ?_
 rintro e w' ⟨rfl,nq,rfl⟩
 rw [HG.out]
 have e1:=HE1.out
 have e2:=HE2.out
 go_wp2_with fail
 go_quiet (fail)
 clear e1 e2
 go_wp2_with fail
 refine bodyPost_ret (v:=.tuple #[.agg #[δ (-(q1:Int)),δ q2],δ 0]) (by simp [results,Tryz.results98,go_sem]) rfl ⟨by rw [HF.out]; rfl,?_⟩
 exact ((GB ((Below.refl _ _).alloc (Nat.le_refl _) _) _).setCell (by simp) _).setCell (by simp) _
def Kb (n d:Int):Int×Int×Int:=if d=0 then (0,0,5) else Kq (!(decide (n < 0) == decide (d < 0))) n.natAbs d.natAbs
set_option maxHeartbeats 1000000 in
theorem AGN (n d:Int) (w:World) (hn0:-4000000000000000000≤n) (hn:n≤4000000000000000000) (hd0:-4000000000000000000≤d) (hd:d≤4000000000000000000) :
  Calls Tryz.prog 66 #[δ n,δ d] w fun e w'=>e=Q2 (Kb n d)∧Below (ε w) w w':=by
 by_cases h0:d=0
 ·subst h0
  go_enter Tryz.func66,Tryz.ntmps66
  go_wp2_with fail
  refine bodyPost_ret (v:=.tuple #[.agg #[δ 0,δ 0],δ 5]) (by simp [results,Tryz.results66,go_sem]) rfl ⟨rfl,?_⟩
  exact (Below.refl _ _).alloc (Nat.le_refl _) _
 have HR:Hid (Kb n d=Kq (!(decide (n < 0) == decide (d < 0))) n.natAbs d.natAbs):=by show _=_; unfold Kb; rw [if_neg h0]
 have g0:(d == 0)=false:=by simpa using h0
 have hd1:1≤d.natAbs:=by omega
 clear h0
 go_enter Tryz.func66,Tryz.ntmps66
 go_wp2_with fail
 refine (Ly n _ hn0 hn).mono ?_
 rintro e w' ⟨rfl,rfl⟩
 go_wp2_with fail
 refine (Ly d _ hd0 hd).mono ?_
 rintro e w' ⟨rfl,rfl⟩
 go_wp2_with fail
 refine (wU _ _ _ _ (by omega) (by omega) (by omega)).mono ?_
 rintro e w' ⟨rfl,hb⟩
 generalize hx:Kq _ _ _=x
 obtain ⟨x1,x2,x3⟩:=x
 have HY:Hid (Kb n d=(x1,x2,x3)):=by
  show _=_
  rw [HR.out,← hx]
 clear hx HR
 simp only [Q2]
 have hc0:w'.cell? ⟨ε w,0,none⟩=some (δ 0):=by rw [hb.cell (by simp)]; simp
 have hc1:w'.cell? ⟨ε w,1,none⟩=some (δ 0):=by rw [hb.cell (by simp)]; simp
 have hf0:w'.frozen? ⟨ε w,0,none⟩=false:=by rw [hb.frozen (by simp)]; simp
 have hf1:w'.frozen? ⟨ε w,1,none⟩=false:=by rw [hb.frozen (by simp)]; simp
 go_wp2_with fail
 refine bodyPost_ret (v:=.tuple #[.agg #[δ x1,δ x2],δ x3]) (by simp [results,Tryz.results66,go_sem,hc0,hc1]) rfl ⟨by rw [HY.out]; rfl,?_⟩
 exact ((((Below.refl _ _).alloc (Nat.le_refl _) _).trans (hb.mono (by simp))).setCell (by simp) _).setCell (by simp) _
set_option maxHeartbeats 1000000 in
theorem RZ (a b:Nat) (w:World) (ha:a≤4000000000000000000) (hb:b≤4000000000000000000) :
  Calls Tryz.prog 100 #[.int .u64 a,.int .u64 b] w fun e w'=>e=.returned (.int .u64 (Nat.gcd a b))∧∃ n,w'=w.drewN n:=by
 generalize hG:Nat.gcd a b=G
 have HG:=Lib.hid hG
 clear hG
 go_enter Tryz.func100,Tryz.ntmps100
 go_wp2_with fail
 go_loopw [0,1] (fun p q wr=>∃ x y n:Nat,x≤4000000000000000000∧y≤4000000000000000000∧p=.int .u64 x∧q=.int .u64 y∧Hid (Nat.gcd x y=G)∧wr=w.drewN n) (fun _ q _=>(intOf q).toNat)
 case atStart=>exact ⟨a,b,0,ha,hb,rfl,rfl,HG,rfl⟩
 case round=>
  obtain ⟨x,y,n,hx,hy,rfl,rfl,HX,rfl⟩:=hrel
  by_cases hy0:y=0
  ·subst hy0
   go_wp2_with fail
   go_ret
   exact ⟨Em (by rw [← HX.out]; simp),n,rfl⟩
  have g1:((y:Int) != 0)=true:=by simp; omega
  have g2:((y:Int) == 0)=false:=by simp; omega
  have hyp:1≤y:=by omega
  have hm:=Nat.mod_lt x hyp
  have HN:Hid (Nat.gcd y (x % y)=G):=by
   show _=_
   rw [← HX.out,Nat.gcd_comm x y,Nat.gcd_rec y x,Nat.gcd_comm]
  clear hy0
  go_wp2_with fail
  go_quiet (fail)
  go_wp2_with fail
  go_roundw
  case rel=>exact ⟨y,x % y,_,by omega,by omega,rfl,by go_num,HN,World.drewN_drewN _ _ _⟩
  case measure=>simp [intOf]; omega
theorem MR (n:Int) (w:World) (b:-4000000000000000000≤n) (a:n≤4000000000000000000) :
  Calls Tryz.prog 99 #[δ n] w fun e w'=>e=.returned (.int .u64 (n.natAbs:Nat))∧w=w':=by
 by_cases hn:n < 0
 ·go_enter Tryz.func99,Tryz.ntmps99
  go_wp2_with fail
  go_ret
  refine ⟨Em ?_,rfl⟩
  first | omega | (simp only [IntKind.wrap_u64]; omega)
 go_enter Tryz.func99,Tryz.ntmps99
 go_wp2_with fail
 go_ret
 exact ⟨Em (by first | omega | (simp only [IntKind.wrap_u64]; omega)),rfl⟩
set_option maxHeartbeats 2000000 in
theorem fv (n d:Int) (w:World) (hn0:-4000000000000000000≤n) (hn:n≤4000000000000000000) (hd0:-4000000000000000000≤d) (hd:d≤4000000000000000000) :
  Calls Tryz.prog 67 #[δ n,δ d] w fun e w'=>e=Q2 (Kb n d)∧Below (ε w) w w':=by
 by_cases h0:d=0
 ·subst h0
  go_enter Tryz.func67,Tryz.ntmps67
  go_wp2_with fail
  refine bodyPost_ret (v:=.tuple #[.agg #[δ 0,δ 0],δ 5]) (by simp [results,Tryz.results67,go_sem]) rfl ⟨rfl,?_⟩
  exact (Below.refl _ _).alloc (Nat.le_refl _) _
 have HR:Hid (Kb n d=Kq (!(decide (n < 0) == decide (d < 0))) n.natAbs d.natAbs):=by show _=_; unfold Kb; rw [if_neg h0]
 have g0:(d == 0)=false:=by simpa using h0
 have hd1:1≤d.natAbs:=by omega
 have bn:n.natAbs≤4000000000000000000:=by omega
 have bd:d.natAbs≤4000000000000000000:=by omega
 clear h0
 have hg0:1≤Nat.gcd n.natAbs d.natAbs:=Nat.gcd_pos_of_pos_right _ hd1
 generalize hG:Nat.gcd n.natAbs d.natAbs=G at *
 have HG:=Lib.hid hG
 clear hG
 obtain ⟨q1,h1⟩:∃ q,n.natAbs / G=q:=⟨_,rfl⟩
 obtain ⟨q2,h2⟩:∃ q,d.natAbs / G=q:=⟨_,rfl⟩
 have b1:q1≤4000000000000000000:=by rw [← h1]; exact Nat.le_trans (Nat.div_le_self _ _) bn
 have b2:q2≤4000000000000000000:=by rw [← h2]; exact Nat.le_trans (Nat.div_le_self _ _) bd
 have HE1:Hid (IntKind.u64.wrap ((n.natAbs:Int) / (G:Int))=(q1:Int)):=by
  show _=_
  rw [← Int.natCast_ediv,h1]; exact IntWalk.u64_in _ (by omega)
 have HE2:Hid (IntKind.u64.wrap ((d.natAbs:Int) / (G:Int))=(q2:Int)):=by
  show _=_
  rw [← Int.natCast_ediv,h2]; exact IntWalk.u64_in _ (by omega)
 by_cases hA:1000000000000 < q1∨1000000 < q2
 ·have HF:Hid (Kb n d=(0,0,4)):=by show _=_; rw [HR.out]; exact XU HG h1 h2 hA
  have HA:1000000000000 < q1∨(¬ 1000000000000 < q1∧1000000 < q2):=by omega
  clear h1 h2 hA
  rcases HA with hA | ⟨hA1,hA2⟩
  all_goals
   go_enter Tryz.func67,Tryz.ntmps67
   go_wp2_with fail
   refine (MR n _ hn0 hn).mono ?_
   rintro e w' ⟨rfl,rfl⟩
   go_wp2_with fail
   refine (MR d _ hd0 hd).mono ?_
   rintro e w' ⟨rfl,rfl⟩
   go_wp2_with fail
   refine (RZ _ _ _ (by omega) (by omega)).mono ?_
   rintro e w' ⟨rfl,nq,rfl⟩
   rw [HG.out]
   have e1:=HE1.out
   have e2:=HE2.out
   go_wp2_with fail
   go_quiet (fail)
   clear e1 e2
   go_wp2_with fail
   refine bodyPost_ret (v:=.tuple #[.agg #[δ 0,δ 0],δ 4]) (by simp [results,Tryz.results67,go_sem]) rfl ⟨by rw [HF.out]; rfl,?_⟩
   exact ((GB ((Below.refl _ _).alloc (Nat.le_refl _) _) _).setCell (by simp) _).setCell (by simp) _
 have hA1:q1≤1000000000000:=by omega
 have hA2:q2≤1000000:=by omega
 have HF:Hid (Kb n d=(if (!(decide (n < 0) == decide (d < 0)))=true then -(q1:Int) else q1,(q2:Int),0)):=by show _=_; rw [HR.out]; exact Po HG h1 h2 (by omega) (by omega)
 clear h1 h2 hA
 go_enter Tryz.func67,Tryz.ntmps67
 go_wp2_with fail
 refine (MR n _ hn0 hn).mono ?_
 rintro e w' ⟨rfl,rfl⟩
 go_wp2_with fail
 refine (MR d _ hd0 hd).mono ?_
 rintro e w' ⟨rfl,rfl⟩
 go_wp2_with fail
 refine (RZ _ _ _ (by omega) (by omega)).mono ?_
 rintro e w' ⟨rfl,nq,rfl⟩
 rw [HG.out]
 have e1:=HE1.out
 have e2:=HE2.out
 go_wp2_with fail
 go_quiet (fail)
 clear e1 e2
 go_wp2_with fail
 ·have hs:(!decide (n < 0) == decide (d < 0))=true:=by assumption
  refine bodyPost_ret (v:=.tuple #[.agg #[δ (-(q1:Int)),δ q2],δ 0]) (by simp [results,Tryz.results67,go_sem]) rfl ⟨by rw [HF.out,if_pos hs]; rfl,?_⟩
  repeat (first | exact (Below.refl _ _).alloc (Nat.le_refl _) _ | exact GB ((Below.refl _ _).alloc (Nat.le_refl _) _) _ | refine Below.setCell ?_ (by simp) _ | refine Below.alloc ?_ (by simp) _ | refine GB ?_ _)
 have hs:¬ (!decide (n < 0) == decide (d < 0))=true:=by rw [Bool.not_eq_true]; assumption
 refine bodyPost_ret (v:=.tuple #[.agg #[δ (q1:Int),δ q2],δ 0]) (by simp [results,Tryz.results67,go_sem]) rfl ⟨by rw [HF.out,if_neg hs]; rfl,?_⟩
 repeat (first | exact (Below.refl _ _).alloc (Nat.le_refl _) _ | exact GB ((Below.refl _ _).alloc (Nat.le_refl _) _) _ | refine Below.setCell ?_ (by simp) _ | refine Below.alloc ?_ (by simp) _ | refine GB ?_ _)
end Go.Proofs.YtkjbdagicjbjjaaGreat
namespace Go.Proofs.YtkjbdagicjbjjaaGreat
open Go.ChangeShapes Go.WideShapes Go.ChangeAt Go.RowKit
theorem YU:ownKnob Tryz.prog.godebug=none:=by kernel_rfl
def p9:DataW Unit→List Value
 | .lit (.int k n)=>[.int k n]
 | .lit (.string s)=>[.string ⟨s.toArray⟩]
 | .agg xs=>xs.flatMap fun
  | .lit (.int k n)=>[.int k n]
  | .lit (.string s)=>[.string ⟨s.toArray⟩]
  | .agg ys=>ys.flatMap fun
   | .lit (.int k n)=>[.int k n]
   | .lit (.string s)=>[.string ⟨s.toArray⟩]
   | _=>[]
  | _=>[]
 | _=>[]
def setRow (cs:Array Value):Obj→Obj
 | .cells _ t frozen=>.cells cs t frozen
 | o=>o
section
variable {H:Type} {enc:TypeId×Value→H} {P:Program}
theorem TK {f:Func} {s:ChangeSpec} {apart fresh e l:Bool} {W m:World} {args:Array Value} {v:Value} {ds q:List (DataW H)} {before pa pv:List MemPlace}
  (u:DataW.Whole enc P f.params.toList s.vars apart W args.toList ds q before)
  (h:∀ (b:Nat) (k:Nat→Bool) (hd:Bool),DataW.TrodAll enc P m b k hd f.resultTypes.toList (v.resultList f.resultTypes.size) (s.fn H (ds++q)).results [])
  (d:∀ k:Nat→Bool,(∀ p∈before,k p.block=true)→DataW.TrodAll enc P m 0 k true f.params.toList args.toList (s.fn H (ds++q)).args pa)
  (a:∀ k:Nat→Bool,(∀ p∈before,k p.block=true)→DataW.TrodVars enc P m k s.vars (s.fn H (ds++q)).vars pv)
  (g:before=pa++pv) (hb:Below (ε W) W m)
  (hok:∀ (j:Nat) (t:TypeId) (r:Value),f.resultTypes[j]?=some t→(v.resultList f.resultTypes.size)[j]?=some r→Value.okWide P m .any 0 t r) :
  s.post enc P f apart fresh e l W args v m:=by
 have n:∀ p∈before,p.block < (ε W):=fun p c=>u.lt p c
 have i:∀ p∈before,(fun b=>decide (b < (ε W))) p.block=true:=fun p c=>by simpa using n p c
 refine ⟨ds,q,before,[],pa,pv,u,h _ _ _,d _ i,a _ i,World.keptBut_mono (fun p c=>⟨c,?_⟩) (hb.frame (·∈before)),fun _=>?_⟩
 ·rw [g,List.mem_append] at c
  exact Or.inr c
 obtain ⟨_,_,_,_,_,hz,hn⟩:=u
 refine ⟨hok,_,_,([]++pa)++pv,⟨[]++pa,pv,trodAll_append (d _ (fun _ _=>rfl)) (h _ _ _),a _ (fun _ _=>rfl),rfl,?_,?_⟩,?_⟩
 ·intro b off c
  have o:MemPlace.cell b off∈before:=by rw [g]; simpa using c
  rw [hb.frozen (n _ o)]
  exact hz b off o
 ·intro ha
  have:=hn ha
  rw [g] at this
  simpa using this
 intro p c _
 rw [g]
 simpa using c
end
noncomputable def ABL (h:Array Obj) (x:String×DataW Unit):Array Obj:=
 match Tryz.prog.globalNamed x.1 with
 | some g=>h.modify g (setRow (p9 x.2).toArray)
 | none=>h
theorem qQ:Tryz.prog.cellsOf 3=1:=by kernel_rfl
theorem wO:laidOutB Tryz.prog=true:=by kernel_rfl
set_option maxRecDepth 100000 in
theorem wQ {H:Type} {enc:TypeId×Value→H} {W:World} {r:Reach} {b0:Nat} {v:Value} {d:DataW H} {ps:List MemPlace} (hval:Value.okWide Tryz.prog W r b0 22 v)
  (h:DataW.Trod enc Tryz.prog W 0 (fun _=>true) true 22 v d ps):∃ ns,Hu W (ε W) v ns:=by
 obtain ⟨a0,len,cap,rfl⟩:=okWide_slice Tryz.underlying22 hval
 obtain ⟨fuel,hf⟩:=h
 rcases open_ints Tryz.underlying22 Tryz.underlying3 qQ hf with ⟨hcs,_⟩ | ⟨a,len',cap',zs,hcs,_,hl,hm,hz,_,hcell,hwz⟩
 ·simp [Value.cells] at hcs
  obtain ⟨rfl,rfl,rfl⟩:=hcs
  exact ⟨[],none,0,rfl,Nat.zero_le _,fun x hx=>(by cases hx),fun h=>(by cases h)⟩
 simp [Value.cells] at hcs
 obtain ⟨rfl,rfl,rfl⟩:=hcs
 rw [if_pos rfl] at hz
 have hlen:(zs.take len).length=len:=by simp; omega
 refine ⟨zs.take len,some a,cap,by rw [hlen],by omega,fun x hx=>bounds_i64 (hwz x (List.mem_of_mem_take hx)),fun h=>?_⟩
 obtain ⟨b,off,rfl,hc⟩:=Go.ints_at hcell (by omega)
 refine ⟨b,off,rfl,World.block_lt_of_cell? W _ (hc 0 (by omega)),fun i hi=>?_⟩
 rw [hc i (by omega),List.getElem_take,List.getD_eq_getElem?_getD,List.getElem?_eq_getElem (by omega)]
 rfl
section
variable {P:Program} {f:FuncId} {R:Ending→World→Prop}
theorem FH.below {O:List Nat} {B:Nat} {w w':World} (h:FH O B w w') {a:Nat} (d:a≤B) (b:∀ k∈O,a≤k):Go.RowKit.Below a w w':=
 ⟨h.os,h.tape,h.output,h.size,fun k c=>h.block k (by omega) fun hm=>by have:=b k hm; omega⟩
theorem OV (w:World) (mem:List A7) (hg:∀ e∈mem,e.good w) (hn:(mem.map (·.id)).Nodup):EU (mem.map (·.id)) (ε w) w ⟨ε w,mem,(0,0),[]⟩:=by
 refine ⟨⟨rfl,hg,fun i j e e' hi c _ a he=>?_⟩,Nat.le_refl _,fun e he _=>.inl (List.mem_map.2 ⟨e,he,rfl⟩)⟩
 have b:(mem.map (·.id))[i]?=some e.id:=by rw [List.getElem?_map,hi]; rfl
 have h2:(mem.map (·.id))[j]?=some e.id:=by rw [List.getElem?_map,c]; exact congrArg some he.symm
 exact a ((List.getElem?_inj (List.getElem?_eq_some_iff.1 b).1 hn).1 (b.trans h2.symm))
def Hx (n:Nat) (E:Nat→Value):List Item→Option Oper
 | .inRegion ops (i :: _) :: _=>match ops[i]? with
  | some o=>match Region.wanted o (H7 n ops E) with
   | true=>some o
   | false=>none
  | none=>none
 | _=>none
theorem Rh {n:Nat} {todo:List Item} {E:Nat→Value} {w w':World} {v:Value} (o:Oper) (hc:Hx n E todo=some o) (hx:(execOp (A8 n E) o).run P w=.ok (.value v) w') (h:At P f R (AC todo) (Fr n (Aw E o.dst v)) w'):At P f R todo (Fr n E) w:=by
 unfold Hx at hc
 split at hc
 ·rename_i ops i r k
  split at hc
  ·rename_i o' ho
   split at hc
   ·rename_i hw
    obtain rfl:=Option.some.inj hc
    refine Gi ho (by rw [F1]; exact hw) ?_
    unfold Oper.wp
    rw [D7,hx]
    show wpOps P ops _ r ((Fr n E).put o'.dst v) w'
    rw [El]
    exact h
   cases hc
  cases hc
 cases hc
def IY (n:Nat) (E:Nat→Value) (todo:List Item):Option (FuncId×List Value×Option Tmp):=match Hx n E todo with
 | some o=>match o.op with
  | .call ⟨.value x,xs,_⟩=>match A8 n E x with
   | .func (.func g) ⟨first⟩ ⟨captured⟩=>some (g,first++(xs.toList.map (A8 n E)++captured),o.dst)
   | _=>none
  | _=>none
 | none=>none
theorem qT {n:Nat} {todo:List Item} {E:Nat→Value} {w:World} (g:FuncId) (args:List Value) (dst:Option Tmp) (hc:IY n E todo=some (g,args,dst)) (hg:DX P g=true)
  (h:Calls P g args.toArray w fun e w'=>∃ v,e=.returned v∧At P f R (AC todo) (Fr n (Aw E dst v)) w'):At P f R todo (Fr n E) w:=by
 unfold IY at hc
 split at hc
 ·rename_i o hcur
  split at hc
  ·rename_i x xs ats ho
   split at hc
   ·rename_i g' first captured hx
    simp only [Option.some.injEq,Prod.mk.injEq] at hc
    obtain ⟨rfl,ha,rfl⟩:=hc
    unfold Hx at hcur
    split at hcur
    ·rename_i ops i r k
     split at hcur
     ·rename_i o' ho'
      split at hcur
      ·rename_i hw
       obtain rfl:=Option.some.inj hcur
       refine Gi ho' (by rw [F1]; exact hw) ?_
       unfold Oper.wp
       rw [D7]
       have e:(execOp (A8 n E) o').run P w=.ok (.enter g' args.toArray) w:=by
        rw [← CV (h:=hg) args.toArray w,← ha]
        have c:((⟨first⟩:Array Value)++xs.map (A8 n E))++(⟨captured⟩:Array Value)=(first++(xs.toList.map (A8 n E)++captured)).toArray:=by
         apply Array.ext'
         simp
        rw [← c]
        simp only [execOp,ho,resolve,hx]
        rfl
       rw [e]
       refine h.mono fun d w' b=>?_
       obtain ⟨v,rfl,a⟩:=b
       show wpOps P ops _ r ((Fr n E).put o'.dst v) w'
       rw [El]
       exact a
      cases hcur
     cases hcur
    cases hcur
   cases hc
  cases hc
 cases hc
def Od (n:Nat) (E:Nat→Value) (todo:List Item):Option (TypeId×Value×Option Tmp):=match Hx n E todo with
 | some o=>match o.op with
  | .load t x=>some (t,A8 n E x,o.dst)
  | _=>none
 | none=>none
theorem BN {n:Nat} {todo:List Item} {E:Nat→Value} {w:World} (t:TypeId) (b o:Nat) (a:List Value) (dst:Option Tmp) (c:w.rangeAt b o a) (h:At P f R (AC todo) (Fr n (Aw E dst (ψ a))) w) (hc:Od n E todo=some (t,.pointer (some ⟨b,o,none⟩),dst):=by kernel_rfl) (h1:RM P t=some true:=by kernel_rfl) (h2:MT P t=some a.length:=by kernel_rfl):At P f R todo (Fr n E) w:=by
 unfold Od at hc
 split at hc
 ·rename_i op hcur
  split at hc
  ·rename_i t' x ho
   simp only [Option.some.injEq,Prod.mk.injEq] at hc
   obtain ⟨rfl,hx,rfl⟩:=hc
   refine Rh op hcur (v:=ψ a) (w':=w) ?_ h
   have hl:=run_loadCells_list (P:=P) w ⟨b,o,none⟩ a fun j v d=>by
    rw [qX _ _ rfl]
    exact c j v d
   simp [execOp,ho,hx,Instr.loadAt,Instr.sureAddr,loadVar,Sj h1,I6 h2,hl]
  cases hc
 cases hc
theorem Dz {n:Nat} {todo:List Item} {E:Nat→Value} {w:World} (t:TypeId) (b o:Nat) (v:Value) (dst:Option Tmp) (a:w.cell? ⟨b,o,none⟩=some v) (h:At P f R (AC todo) (Fr n (Aw E dst v)) w) (hc:Od n E todo=some (t,.pointer (some ⟨b,o,none⟩),dst):=by kernel_rfl) (h1:RM P t=some false:=by kernel_rfl):At P f R todo (Fr n E) w:=by
 unfold Od at hc
 split at hc
 ·rename_i op hcur
  split at hc
  ·rename_i t' x ho
   simp only [Option.some.injEq,Prod.mk.injEq] at hc
   obtain ⟨rfl,hx,rfl⟩:=hc
   refine Rh op hcur (v:=v) (w':=w) ?_ h
   simp [execOp,ho,hx,Instr.loadAt,Instr.sureAddr,loadVar,Sj h1,load,Sem.run,a]
  cases hc
 cases hc
theorem FM {n:Nat} {fn:Func} {E:Nat→Value} {w:World} {todo:List Item} (m:Nat) (v:Value) (hk:∀ w',Go.RowKit.Below w.heap.size w w'→R (.returned v) w') (hf:P.funcs[f]?=some fn:=by kernel_rfl) (he:(fun a:St=>(RI a.todo,a.ms.mem,a.ms.sz,a.ms.eqs,(Dh P (Fj fn n a.env) ⟨0,[],(0,0),[]⟩).map (fun r=>(r.1,r.2.eqs)))) (H0 P n m ⟨todo,E,⟨w.heap.size,[],(0,0),[]⟩,[]⟩)=(true,[],w.heap.size,[],some (v,[])):=by kernel_rfl):At P f R todo (Fr n E) w:=by
 simp only [Prod.mk.injEq] at he
 obtain ⟨h1,h2,h3,h4,h5⟩:=he
 refine YA (O:=[]) (B:=w.heap.size) m ⟨todo,E,⟨w.heap.size,[],(0,0),[]⟩,[]⟩ (CW w) (by rw [h4]; rfl) fun w' hL' hK=>?_
 have h6:(Dh P (Fj fn n (H0 P n m ⟨todo,E,⟨w.heap.size,[],(0,0),[]⟩,[]⟩).env) ⟨0,[],(0,0),[]⟩).map (·.1)=some v:=by
  cases hl:Dh P (Fj fn n (H0 P n m ⟨todo,E,⟨w.heap.size,[],(0,0),[]⟩,[]⟩).env) ⟨0,[],(0,0),[]⟩ with
  | none=>rw [hl] at h5; cases h5
  | some r=>rw [hl] at h5; simp at h5; simp [h5.1]
 refine n0 (fn:=fn) h1 hf ⟨0,[],(0,0),[]⟩ (fun e he=>(by cases he)) v h6 ?_ (hk w' (hK.below (Nat.le_refl _) (fun k hk=>by cases hk)))
 cases hl:Dh P (Fj fn n (H0 P n m ⟨todo,E,⟨w.heap.size,[],(0,0),[]⟩,[]⟩).env) ⟨0,[],(0,0),[]⟩ with
 | none=>rfl
 | some r=>
  rw [hl] at h5
  simp at h5
  simp [h5.2]
end
inductive Ex where
 | mk (op num den mu hu du:Int) (name:List UInt8) (count mode:Int) (kids:List Ex):Ex
mutual
def Ex.height:Ex→Nat
 | .mk _ _ _ _ _ _ _ _ _ kids=>Ex.heights kids + 1
def Ex.heights:List Ex→Nat
 | []=>0
 | e :: es=>max (Ex.height e) (Ex.heights es)
end
structure Df where
 kind:Int
 name:List UInt8
 tb:Bool
 tm:Int
 th:Int
 td:Int
 frm:Int
 ents:List (Int×Int×Int)
 body:Ex
 mode:Int
 num:Int
 den:Int
def Kr (e:Int×Int×Int):List Value:=[δ e.1,δ e.2.1,δ e.2.2]
def Df.head (d:Df) (A:Option Addr) (c:Nat):List Value:=[δ d.kind,.string ⟨d.name.toArray⟩,ξ d.tb,δ d.tm,δ d.th,δ d.td,δ d.frm,τ A d.ents.length c]
def Df.tail (d:Df):List Value:=[δ d.mode,δ d.num,δ d.den]
def BM:Ex:=.mk 0 0 0 0 0 0 [] 0 0 []
def DH (S:Nat→Prop) (w:World) (n:Nat) (A:Option Addr) (rs:List (List Value)):Prop:=
 rs=[]∨∃ g off,A=some ⟨g,off,none⟩∧S g∧g < (ε w)∧∀ (i:Nat) r,rs[i]?=some r→∀ (j:Nat) u,r[j]?=some u→w.cell? ⟨g,off + i * n + j,none⟩=some u
mutual
def DE (S:Nat→Prop) (w:World):Ex→List Value→Prop
 | .mk op num den mu hu du name count mode kids,cs=>∃ A c ks,cs=[δ op,δ num,δ den,δ mu,δ hu,δ du,.string ⟨name.toArray⟩,δ count,δ mode,τ A kids.length c]∧
   FU S w kids ks∧DH S w 10 A ks
def FU (S:Nat→Prop) (w:World):List Ex→List (List Value)→Prop
 | [],ks=>ks=[]
 | e :: es,ks=>∃ c cs,ks=c :: cs∧DE S w e c∧FU S w es cs
end
theorem DH.keep {S b:Nat→Prop} {n:Nat} {w w':World} {A:Option Addr} {rs:List (List Value)} (h:DH S w n A rs) (hs:(ε w)≤(ε w')) (hb:∀ g,S g→g < (ε w)→b g∧w'.heap[g]?=w.heap[g]?):DH b w' n A rs:=by
 rcases h with h | ⟨g,off,rfl,hg,a,hc⟩
 ·exact .inl h
 have:=hb g hg a
 refine .inr ⟨g,off,rfl,this.1,by omega,fun i r hi j u c=>?_⟩
 rw [World.cell?_of_block (w:=w) this.2]
 exact hc i r hi j u c
mutual
theorem DE.keep {S b:Nat→Prop} {w w':World} (hs:(ε w)≤(ε w')) (hb:∀ g,S g→g < (ε w)→b g∧w'.heap[g]?=w.heap[g]?):∀ (e:Ex) (a:List Value),DE S w e a→DE b w' e a
 | .mk op num den mu hu du name count mode kids,a,h=>by
  unfold DE at h ⊢
  obtain ⟨A,c,ks,f,h2,d⟩:=h
  exact ⟨A,c,ks,f,FU.keep hs hb kids ks h2,d.keep hs hb⟩
theorem FU.keep {S b:Nat→Prop} {w w':World} (hs:(ε w)≤(ε w')) (hb:∀ g,S g→g < (ε w)→b g∧w'.heap[g]?=w.heap[g]?):∀ (es:List Ex) (ks:List (List Value)),FU S w es ks→FU b w' es ks
 | [],ks,h=>by unfold FU at h ⊢; exact h
 | e :: es,ks,h=>by
  unfold FU at h ⊢
  obtain ⟨c,a,f,h2,d⟩:=h
  exact ⟨c,a,f,DE.keep hs hb e c h2,FU.keep hs hb es a d⟩
end
theorem DE.cells {S:Nat→Prop} {w:World} {x:Ex} {b:List Value} (h:DE S w x b):∃ (a0 i g a3 a4 a5:Int) (f:List UInt8) (e d:Int) (A:Option Addr) (n c:Nat),b=[δ a0,δ i,δ g,δ a3,δ a4,δ a5,.string ⟨f.toArray⟩,δ e,δ d,τ A n c]:=by
 obtain ⟨op,num,den,mu,hu,du,name,a,mode,kids⟩:=x
 unfold DE at h
 obtain ⟨A,c,ks,rfl,_⟩:=h
 exact ⟨_,_,_,_,_,_,_,_,_,_,_,_,rfl⟩
def Ej (S:Nat→Prop) (w:World) (d:Df) (cs:List Value):Prop:=
 ∃ A c bs,DE S w d.body bs∧DH S w 3 A (d.ents.map Kr)∧cs=d.head A c++bs++d.tail
theorem Ej.keep {S b:Nat→Prop} {w w':World} {d:Df} {a:List Value} (h:Ej S w d a) (hs:(ε w)≤(ε w')) (hb:∀ g,S g→g < (ε w)→b g∧w'.heap[g]?=w.heap[g]?):Ej b w' d a:=by
 obtain ⟨A,c,bs,f,h2,e⟩:=h
 exact ⟨A,c,bs,DE.keep hs hb _ _ f,h2.keep hs hb,e⟩
theorem Ej.len {S:Nat→Prop} {w:World} {d:Df} {a:List Value} (h:Ej S w d a):a.length=21:=by
 obtain ⟨A,c,bs,b,_,rfl⟩:=h
 obtain ⟨_,_,_,_,_,_,_,_,_,_,_,_,rfl⟩:=b.cells
 simp [Df.head,Df.tail]
theorem Ej.cells {S:Nat→Prop} {w:World} {d:Df} {a:List Value} (h:Ej S w d a):∃ (A:Option Addr) (c:Nat) (a0 l k a3 a4 a5:Int) (j:List UInt8) (i g:Int) (B:Option Addr) (b e:Nat),a=[δ d.kind,.string ⟨d.name.toArray⟩,ξ d.tb,δ d.tm,δ d.th,δ d.td,δ d.frm,τ A d.ents.length c,δ a0,δ l,δ k,δ a3,δ a4,δ a5,.string ⟨j.toArray⟩,δ i,δ g,τ B b e,δ d.mode,δ d.num,δ d.den]:=by
 obtain ⟨A,c,bs,f,_,rfl⟩:=h
 obtain ⟨_,_,_,_,_,_,_,_,_,_,_,_,rfl⟩:=f.cells
 exact ⟨_,_,_,_,_,_,_,_,_,_,_,_,_,_,rfl⟩
end Go.Proofs.YtkjbdagicjbjjaaGreat

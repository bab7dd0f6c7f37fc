/- Contracts of functions, part 40. -/
import Derived.Test.YtkjbdagicjbjjaaGreatTs39
set_option linter.all false
namespace Go.Proofs.YtkjbdagicjbjjaaGreat
noncomputable section
open Go.RowKit
set_option maxRecDepth 100000
set_option maxHeartbeats 1000000
abbrev DO (A:Option Addr) (c:Nat) (l:List (Int×Int)):Th:=Th.row 41 2 (fun e r=>r=BT e) A c l
abbrev PaX:=Dk×Option Addr×Nat
abbrev Y5 (x:PaX):List Value:=[η (x.1.1),τ x.2.1 x.1.2.length x.2.2]
abbrev AB0 (A:Option Addr) (c:Nat) (l:List PaX):Th:=Th.row 90 2 (fun e r=>r=Y5 e) A c l
theorem Aj.slOk {α:Type} {b:Nat} {w:World} {L:List Th} {U:TypeId} {n:Nat} {e:α→List Value→Prop} {A:Option Addr} {c:Nat} {l:List α} (h:Aj b w L) (i:Nat) (hi:L[i]?=some (Th.row U n e A c l)):iB A l.length c:=by
 obtain ⟨rs,_,ho⟩:=h.all i _ hi
 rcases ho.2 with ⟨d,h2⟩ | ⟨g,cap,j,d,_,_,f,_⟩
 ·simp only [Value.slice.injEq] at d
  obtain ⟨rfl,_,rfl⟩:=d
  exact ⟨by omega,fun a ha=>by cases ha⟩
 simp only [Value.slice.injEq] at d
 obtain ⟨rfl,_,rfl⟩:=d
 exact ⟨f,fun a ha=>by obtain rfl:=Option.some.inj ha; rfl⟩
theorem Qx {P:Program} {o:Oper} {ρ:Operand→Value} {α:Type} {b:Nat} {w:World} {L:List Th} {U:TypeId} {n g c:Nat} {f:α→List Value} {x0 e':α} {s:List α} (hn:∀ e,(f e).length=n) (H:Aj b w L) (i:Nat) (hi:L[i]?=some (Th.row U n (fun e r=>r=f e) (θ g) c (x0 :: s))) {t:TypeId} {x y:Operand} (ho:o.op=.store t x y) (hx:ρ x=ζ g) (hy:ρ y=ψ (f e')) (v:MT P t=some n) (h1:(f e').all (·.oneCell')=true) :
  ∃ w',(execOp ρ o).run P w=.ok .skip w'∧Aj b w' (L.set i (Th.row U n (fun e r=>r=f e) (θ g) c (e' :: s)))∧Below b w w':=by
 obtain ⟨rs,hr,hP⟩:=H.all i _ hi
 have l:=IU hr
 rcases hP.2 with ⟨h0,_⟩ | ⟨g',cap,a,hA,_,hg,p,b0,a0,ht⟩
 ·cases h0
 simp only [Value.slice.injEq,Option.some.injEq,Addr.mk.injEq] at hA
 obtain ⟨⟨rfl,_⟩,_,rfl⟩:=hA
 have c0:n≤a.size:=by
  rw [a0]
  exact Nat.le_mul_of_pos_left n (by rw [List.length_cons] at p; omega)
 have k:=run_storeCells_at P g 0 U (f e') 0 a w hg (by rw [hn]; omega) (fun u hu=>List.all_eq_true.1 h1 u hu)
 obtain ⟨j,m⟩:∃ j,j=(a.toList.take (0 + 0)++f e'++a.toList.drop (0 + 0 + (f e').length)).toArray:=⟨_,rfl⟩
 rw [← m] at k
 have d:j.toList=f e'++a.toList.drop n:=by rw [m,hn]; simp
 have d0:=H.lo i _ hi g rfl
 have h:(w.setRow g j).heap.size=w.heap.size:=by unfold World.setRow; simp
 refine ⟨w.setRow g j,?_,H.set i hi (by omega) ⟨(e' :: s).map f,Es _,?_,.inr ⟨g,c,j,rfl,Nat.zero_le _,setRow_heap w g a _ U _ hg,p,b0,?_,?_⟩⟩ (fun q z=>⟨?_,.inl z⟩) (fun q _ hf=>setRow_other w g q _ fun e=>hf (by rw [e]; rfl)),⟨rfl,rfl,rfl,by omega,fun q z=>setRow_other w g q _ fun e=>by omega⟩⟩
 ·unfold execOp
  simp only [ho,hx,hy]
  have h2:(Value.agg ⟨f e'⟩).cells=⟨f e'⟩:=rfl
  have h3:(⟨f e'⟩:Array Value).size=n:=hn e'
  simp [Instr.storeAt,Instr.sureAddr,storeVar,I6 v,h2,h3,k]
 ·have:=hP.1
  rw [l] at this
  rw [List.map_cons,List.flatten_cons,List.length_append,hn]
  rw [List.map_cons,List.flatten_cons,List.length_append,hn] at this
  exact this
 ·rw [← Array.length_toList,d,List.length_append,hn,List.length_drop,Array.length_toList]
  omega
 ·rw [l,List.map_cons,List.flatten_cons] at ht
  rw [d,List.map_cons,List.flatten_cons,List.length_cons,Nat.succ_mul,Nat.add_comm,← hn e',List.take_length_add_append]
  have h2:=congrArg (List.drop n) ht
  rw [List.drop_take,List.length_cons,Nat.succ_mul,Nat.add_sub_cancel] at h2
  rw [hn,h2,← hn x0,List.drop_left]
 rw [h]
 exact (H.lo i _ hi q z).2
attribute [local irreducible] BD BP AC AD AF Ar AZ AM Aw Bk C6 BV EE C5 BO At Fr
noncomputable def Z1:Code:=Tryz.f9.body.getD .skip
def OI:=ν [.code Z1]
def cH:=ν (Ar OI)
def sP:=Ξ cH
def OH:=Ω sP
def cG:=ν (Ar OH)
def cF:=Al 8 (AD cG)
def sO:=Ψ cH
def cD:=Ω sO
def cC:=Ξ cD
def sN:=AA (An (Ae) 90 (AC cC)) (AC cC)
def jF:=Ω sN
def U3:=Ψ cD
def U2:=Al 13 (AD U3)
def jE:=AI U2
def xt:=Ψ U3
def FW:Array Oper:=AR cF
def qa:Wr:=[(22,2),(23,3),(24,4),(25,5),(26,6),(27,7),(28,8),(29,9)]
def I9:Array Oper:=AR U2
def wi:Wr:=[(44,0),(45,1),(46,2),(47,3),(48,4),(49,5),(50,6),(51,7)]
theorem KX {b:Nat} {ns:List Int} {w0 w w':World} {h g:Option Addr} {d a:Nat} {l0 l1:List (Int×Int)} (K:Wk w0 w' [ι (ε w) [η [103,114,111,115,115],τ h l0.length d,η [116,105,109,101],τ g l1.length a] 90] [BF w0 b ns,Bh b w,DO h d l0,DO g a l1] []) (i:(ε w0)=b) (k:Below (ε w0) w0 w) (m:l0.length≤4) (l:l1.length≤4) :
  ∃ A c,∃ pa:List Dk,∃ L':List Th,Ending.returned (τ (some ⟨ε w,0,none⟩) 2 2)=.returned (τ A pa.length c)∧pa.length≤2∧(∀ x∈pa,x.2.length≤4)∧Aj (b + 1) w' L'∧(∀ u,Aj (b + 1) u L'→EW u A pa)∧Be b ns w'∧CG b w w':=by
 have j:=K.entRows (n:=2) 0 (fun e r=>r=Y5 e) [(([103,114,111,115,115],l0),h,d),(([116,105,109,101],l1),g,a)] ([(([103,114,111,115,115],l0),h,d),(([116,105,109,101],l1),g,a)].map Y5) (Es _) rfl rfl (by simp) rfl
 refine ⟨some ⟨ε w,0,none⟩,2,[([103,114,111,115,115],l0),([116,105,109,101],l1)],[DO h d l0,DO g a l1,AB0 (some ⟨ε w,0,none⟩) 2 [(([103,114,111,115,115],l0),h,d),(([116,105,109,101],l1),g,a)]],rfl,by simp,fun x hx=>?_,j.fin i,fun u hu=>?_,j.out i k⟩
 ·simp only [List.mem_cons,List.not_mem_nil,or_false] at hx
  rcases hx with rfl | rfl
  ·exact m
  exact l
 have o:=hu.rowsF (f:=Y5) (fun _=>rfl) 2 rfl
 exact ⟨[Y5 (([103,114,111,115,115],l0),h,d),Y5 (([116,105,109,101],l1),g,a)],⟨⟨h,d,rfl,hu.slOk 0 rfl,hu.rowsF (fun _=>rfl) 0 rfl⟩,⟨g,a,rfl,hu.slOk 1 rfl,hu.rowsF (fun _=>rfl) 1 rfl⟩,trivial⟩,o⟩
theorem pp {b:Nat} {ns:List Int} {w0 w:World} {R:Ending→World→Prop} (h0:(ε w0)=b) (d0:b < (ε w)) {c l:Option Addr} {a j:Nat} {l0 l1:List (Int×Int)} {k:Nat} (hI:1≤l0.length + k∧l0.length + k≤4∧l1.length=0) (z:Nat→Value) (q:World) (K0:Wk w0 q [ι (ε w) [η [103,114,111,115,115],τ c l0.length a,η [116,105,109,101],τ l l1.length j] 90] [BF w0 b ns,Bh b w,DO c a l0,DO l j l1] [])
  (s:∀ (c:Option Addr) (l0:List (Int×Int)) (a:Nat) (l:Option Addr) (l1:List (Int×Int)) (j:Nat) (E:Nat→Value) (wy:World),1≤l0.length→l0.length≤4→l1.length=0→Wk w0 wy [ι (ε w) [η [103,114,111,115,115],τ c l0.length a,η [116,105,109,101],τ l l1.length j] 90] [BF w0 b ns,Bh b w,DO c a l0,DO l j l1] []→At Tryz.prog 9 R (AZ OI) (Fr 54 (BE E [(0,ζ b),(3,τ (some ⟨ε w,0,none⟩) 2 2),(4,δ ((1:Nat):Int))])) wy) :
  At Tryz.prog 9 R OH (Fr 54 (BE z [(0,ζ b),(3,τ (some ⟨ε w,0,none⟩) 2 2),(4,δ ((0:Nat):Int)),(5,δ (k:Int))])) q:=by
 refine Bo (by kernel_rfl) (fun E q=>∃ (k:Nat) (c:Option Addr) (l0:List (Int×Int)) (a:Nat) (l:Option Addr) (l1:List (Int×Int)) (j:Nat) (z:Nat→Value),E=BE z [(0,ζ b),(3,τ (some ⟨ε w,0,none⟩) 2 2),(4,δ ((0:Nat):Int)),(5,δ (k:Int))]∧(1≤l0.length + k∧l0.length + k≤4∧l1.length=0)∧Wk w0 q [ι (ε w) [η [103,114,111,115,115],τ c l0.length a,η [116,105,109,101],τ l l1.length j] 90] [BF w0 b ns,Bh b w,DO c a l0,DO l j l1] []) (fun E _=>AL (E 5)) ⟨k,c,l0,a,l,l1,j,z,rfl,hI,K0⟩ ?_
 clear K0 hI
 rintro E q ⟨k,c,l0,a,l,l1,j,z,rfl,hI,K1⟩ p
 refine AB cG K1 [] fun w2 K2=>?_
 refine AG (decide (0 < (k:Int))) (fun cc=>?_) (fun cc=>?_)
 ·obtain ⟨k,rfl⟩:∃ m,k=m + 1:=⟨k - 1,by have:=of_decide_eq_true cc; omega⟩
  refine As 8 cF K2 [] fun w3 K3=>?_
  refine ER FW 14 ?_
  refine Gh (i:=0) (v:=τ (some ⟨ε w,0,none⟩) 2 2) (FW.getD 0 default) (fun _ _ _ h=>nomatch h.1) ?_
  refine Gh (i:=1) (v:=δ ((0:Nat):Int)) (FW.getD 1 default) (fun _ _ _ h=>nomatch h.1) ?_
  refine D8 (md:=.any) (fuel:=4) (L:=[Bd 2 [] (τ (some ⟨ε w,0,none⟩) 2 2),Bd 3 [] (δ ((0:Nat):Int)),Bd 4 [2,3] (.pointer (some ⟨ε w,0 + 0 * 2,none⟩)),Bd 5 [2,3,4] (.pointer (some ⟨ε w,0 + 0 * 2 + 1,none⟩)),Bd 6 [2,3,4,5] (τ c l0.length a),Bd 7 [] (ζ b),⟨8,[7],[8],fun vs _=>∃ n d:Int,vs=[ψ [δ n,δ d]]⟩,⟨9,[7,8],[8,9],fun vs u=>∃ (n d:Int) (g:Nat),vs=[ψ [δ n,δ d],χ g 1 1]∧Wk w0 u [ι (ε w) [η [103,114,111,115,115],τ c l0.length a,η [116,105,109,101],τ l l1.length j] 90,ι g [δ n,δ d] 41] [BF w0 b ns,Bh b w,DO c a l0,DO l j l1] []⟩]) (W:=qa) (C:=fun u=>Wk w0 u [ι (ε w) [η [103,114,111,115,115],τ c l0.length a,η [116,105,109,101],τ l l1.length j] 90] [BF w0 b ns,Bh b w,DO c a l0,DO l j l1] []) (Ext:=fun u u'=>∀ (g:Nat) (n d:Int),Wk w0 u [ι (ε w) [η [103,114,111,115,115],τ c l0.length a,η [116,105,109,101],τ l l1.length j] 90,ι g [δ n,δ d] 41] [BF w0 b ns,Bh b w,DO c a l0,DO l j l1] []→Wk w0 u' [ι (ε w) [η [103,114,111,115,115],τ c l0.length a,η [116,105,109,101],τ l l1.length j] 90,ι g [δ n,δ d] 41] [BF w0 b ns,Bh b w,DO c a l0,DO l j l1] []) (K3.below (Below.refl _ _).drew) (fun _ _ _ _ K=>K) (fun _ _ _ h1 h2 g n d K=>h2 g n d (h1 g n d K)) ⟨?_,?_,?_,?_,?_,?_,?_,?_,trivial⟩ rfl ?_
  ·exact ⟨fun _ _ _ _ _ h=>h,fun vals u hu hb=>AN.knownE [] trivial (AN.reads ⟨0,[],(0,0),[]⟩ (fun e he=>by cases he) (τ (some ⟨ε w,0,none⟩) 2 2) ⟨hu,fun _ _ _ K=>K,rfl⟩)⟩
  ·exact ⟨fun _ _ _ _ _ h=>h,fun vals u hu hb=>AN.knownE [] trivial (AN.reads ⟨0,[],(0,0),[]⟩ (fun e he=>by cases he) (δ ((0:Nat):Int)) ⟨hu,fun _ _ _ K=>K,rfl⟩)⟩
  ·refine ⟨fun _ _ _ _ _ h=>h,fun vals u hu hb=>?_⟩
   obtain ⟨h2,h3,_⟩:=hb
   exact AN.knownE [(22,2,τ (some ⟨ε w,0,none⟩) 2 2),(23,3,δ ((0:Nat):Int))] ⟨(List.cons.inj h2).1,(List.cons.inj h3).1,trivial⟩ (AN.value (CE (sz:=2) (k:=0) (len:=2) (cap:=2) 35 (.tmp 22) (.tmp 23) (hx:=rfl) (hi:=rfl) (by decide) Tryz.underlying35) ⟨hu,fun _ _ _ K=>K,rfl⟩)
  ·refine ⟨fun _ _ _ _ _ h=>h,fun vals u hu hb=>?_⟩
   obtain ⟨h2,h3,h4,_⟩:=hb
   exact AN.knownE [(24,4,.pointer (some ⟨ε w,0 + 0 * 2,none⟩))] ⟨(List.cons.inj h4).1,trivial⟩ (AN.reads ⟨0,[],(0,0),[]⟩ (fun e he=>by cases he) (.pointer (some ⟨ε w,0 + 0 * 2 + 1,none⟩)) ⟨hu,fun _ _ _ K=>K,rfl⟩)
  ·refine ⟨fun _ _ _ _ _ h=>h,fun vals u hu hb=>?_⟩
   obtain ⟨h2,h3,h4,h5,_⟩:=hb
   exact AN.knownE [(25,5,.pointer (some ⟨ε w,0 + 0 * 2 + 1,none⟩))] ⟨(List.cons.inj h5).1,trivial⟩ (AN.reads ⟨0,[ι (ε w) [η [103,114,111,115,115],τ c l0.length a,η [116,105,109,101],τ l l1.length j] 90],(0,1),[]⟩ (fun e he=>by rw [List.mem_singleton.1 he]; exact hu.ent 0 rfl) (τ c l0.length a) ⟨hu,fun _ _ _ K=>K,rfl⟩)
  ·exact ⟨fun _ _ _ _ _ h=>h,fun vals u hu hb=>AN.knownE [] trivial (AN.reads ⟨0,[],(0,0),[]⟩ (fun e he=>by cases he) (ζ b) ⟨hu,fun _ _ _ K=>K,rfl⟩)⟩
  ·refine ⟨fun _ _ _ _ _ h=>h,fun vals u hu hb=>?_⟩
   obtain ⟨h7,_⟩:=hb
   refine AN.knownE [(27,7,ζ b)] ⟨(List.cons.inj h7).1,trivial⟩ (AN.call (f:=26) [.tmp 27] (ats:=#[23]) rfl (CV _ u) ((LJ b ns u (hu.tapeOk h0 0 rfl)).mono fun e w' hq=>?_))
   have o:=Fs.ok _ _ hq
   have Kt:=hu.tick h0 0 rfl o.1 o.2
   obtain ⟨n,d,rfl,_,_⟩:=hq
   exact ⟨_,rfl,Kt,fun _ _ _ K=>K.tick h0 0 rfl o.1 o.2,n,d,rfl⟩
  ·refine ⟨fun vs u u' _ hE h=>?_,fun vals u hu hb=>?_⟩
   ·obtain ⟨n,d,g,hv,K⟩:=h
    exact ⟨n,d,g,hv,hE g n d K⟩
   obtain ⟨_,⟨n,d,h8⟩,_⟩:=hb
   refine AN.knownE [(28,8,ψ [δ n,δ d])] ⟨(List.cons.inj h8).1,trivial⟩ (AN.runsK ⟨ε u,[],(0,0),[]⟩ ⟨ε u + 1,[ι (ε u) [δ n,δ d] 41],(0,0),[]⟩ (.value (τ (some ⟨ε u,0,none⟩) 1 1)) (τ (some ⟨ε u,0,none⟩) 1 1) (.inl rfl) (CW u) rfl fun w' hL hK=>?_)
   have B:Below (ε u) u w':=Ce hK
   have H:Aj (ε u) w' ([ι (ε u) [δ n,δ d] 41].map Th.ent++[]):=Aj.run (M:=[]) (Aj.nil (Nat.le_refl _)) hL hK rfl
   exact ⟨hu.below B,fun _ _ _ K=>K.below B,n,d,ε u,by rw [← (List.cons.inj h8).1]; rfl,hu.joinE B H⟩
  intro vals w3 _ _ t
  obtain ⟨_,_,_,_,x6,_,_,⟨r,x,gn,x8,y⟩,_⟩:=t
  refine Bs [(0,ζ b),(3,τ (some ⟨ε w,0,none⟩) 2 2),(4,δ ((0:Nat):Int)),(5,δ ((k + 1:Nat):Int)),(20,τ (some ⟨ε w,0,none⟩) 2 2),(21,δ ((0:Nat):Int)),(26,vals 6),(29,vals 9)] fun E9=>?_
  rw [show vals 6=τ c l0.length a from (List.cons.inj x6).1,show vals 9=χ gn 1 1 from (List.cons.inj (List.cons.inj x8).2).1]
  obtain ⟨A2,c2,w5,a0,H5,b5⟩:=PS (k:=54) (E:=_) y.H (y.ix 2) (y.at 2 rfl) (r,x) [δ r,δ x] rfl gn (y.ent 1 rfl) (FW.getD 10 default) (.tmp 26) (.tmp 29) 67 (by kernel_rfl) (by kernel_rfl) (by kernel_rfl) (by decide) (by kernel_rfl) (by kernel_rfl) rfl rfl (by omega)
  refine Ii (i:=10) (fuel:=3) (FW.getD 10 default) a0 ?_
  have K5:=y.put 2 (by simp) b5 H5
  refine Ii (i:=11) (fuel:=2) (FW.getD 11 default) (CE (g:=(ε w)) (off:=0) (sz:=2) (k:=0) (len:=2) (cap:=2) 35 (.tmp 20) (.tmp 21) (by decide) Tryz.underlying35) ?_
  refine GI (i:=12) K5 (FW.getD 12 default) (0,0) (.pointer (some ⟨ε w,0 + 0 * 2 + 1,none⟩)) fun w6 K6=>?_
  refine Pz (i:=13) K6 (FW.getD 13 default) [ι (ε w) [η [103,114,111,115,115],τ A2 (l0++[(r,x)]).length c2,η [116,105,109,101],τ l l1.length j] 90,ι gn [δ r,δ x] 41] (0,1) undef fun w7 K7=>?_
  refine FN ⟨rfl,At.mid ?_⟩
  refine AB (AZ OH) K7 [] fun w8 K8=>?_
  refine AU [(0,ζ b),(3,τ (some ⟨ε w,0,none⟩) 2 2),(4,δ ((0:Nat):Int)),(5,δ (IntKind.i64.wrap (((k + 1:Nat):Int) - 1)))] fun E8=>?_
  rw [show IntKind.i64.wrap (((k + 1:Nat):Int) - 1)=(k:Int) by rw [IntWalk.i64_in _ (by omega)]; omega]
  refine p _ _ ⟨k,A2,l0++[(r,x)],c2,l,l1,j,E8,rfl,by rw [List.length_append,List.length_singleton]; omega,K8.pk [0] [0,1,2,3]⟩ ?_
  show AL (δ ((k:Nat):Int)) < AL (δ ((k + 1:Nat):Int))
  simp only [AL]
  omega
 have b0:k=0:=by have:=of_decide_eq_false cc; omega
 subst b0
 refine AB (AZ OI) K2 [] fun w3 K3=>?_
 refine AU [(0,ζ b),(3,τ (some ⟨ε w,0,none⟩) 2 2),(4,δ (IntKind.i64.wrap (((0:Nat):Int) + 1)))] fun E3=>?_
 rw [Bl 0 (by omega)]
 exact s c l0 a l l1 j E3 w3 (by omega) (by omega) hI.2.2 K3
theorem po {b:Nat} {ns:List Int} {w0 w:World} {R:Ending→World→Prop} (h0:(ε w0)=b) (d0:b < (ε w)) {l c:Option Addr} {j a:Nat} {l0 l1:List (Int×Int)} {k:Nat} (x:1≤l1.length + k∧l1.length + k≤4∧1≤l0.length∧l0.length≤4) (E0:Nat→Value) (q:World) (K0:Wk w0 q [ι (ε w) [η [103,114,111,115,115],τ l l0.length j,η [116,105,109,101],τ c l1.length a] 90] [BF w0 b ns,Bh b w,DO l j l0,DO c a l1] [])
  (s:∀ (l:Option Addr) (l0:List (Int×Int)) (j:Nat) (c:Option Addr) (l1:List (Int×Int)) (a:Nat) (E:Nat→Value) (wy:World),1≤l1.length→l1.length≤4→1≤l0.length→l0.length≤4→Wk w0 wy [ι (ε w) [η [103,114,111,115,115],τ l l0.length j,η [116,105,109,101],τ c l1.length a] 90] [BF w0 b ns,Bh b w,DO l j l0,DO c a l1] []→At Tryz.prog 9 R (AZ OI) (Fr 54 (BE E [(0,ζ b),(3,τ (some ⟨ε w,0,none⟩) 2 2),(4,δ ((2:Nat):Int))])) wy) :
  At Tryz.prog 9 R OH (Fr 54 (BE E0 [(0,ζ b),(3,τ (some ⟨ε w,0,none⟩) 2 2),(4,δ ((1:Nat):Int)),(5,δ (k:Int))])) q:=by
 refine Bo (by kernel_rfl) (fun E q=>∃ (k:Nat) (l:Option Addr) (l0:List (Int×Int)) (j:Nat) (c:Option Addr) (l1:List (Int×Int)) (a:Nat) (E0:Nat→Value),E=BE E0 [(0,ζ b),(3,τ (some ⟨ε w,0,none⟩) 2 2),(4,δ ((1:Nat):Int)),(5,δ (k:Int))]∧(1≤l1.length + k∧l1.length + k≤4∧1≤l0.length∧l0.length≤4)∧Wk w0 q [ι (ε w) [η [103,114,111,115,115],τ l l0.length j,η [116,105,109,101],τ c l1.length a] 90] [BF w0 b ns,Bh b w,DO l j l0,DO c a l1] []) (fun E _=>AL (E 5)) ⟨k,l,l0,j,c,l1,a,E0,rfl,x,K0⟩ ?_
 clear K0 x
 rintro E q ⟨k,l,l0,j,c,l1,a,E0,rfl,x,K1⟩ p
 refine AB cG K1 [] fun w2 K2=>?_
 refine AG (decide (0 < (k:Int))) (fun cc=>?_) (fun cc=>?_)
 ·obtain ⟨k,rfl⟩:∃ m,k=m + 1:=⟨k - 1,by have:=of_decide_eq_true cc; omega⟩
  refine As 8 cF K2 [] fun w3 K3=>?_
  refine ER FW 14 ?_
  refine Gh (i:=0) (v:=τ (some ⟨ε w,0,none⟩) 2 2) (FW.getD 0 default) (fun _ _ _ h=>nomatch h.1) ?_
  refine Gh (i:=1) (v:=δ ((1:Nat):Int)) (FW.getD 1 default) (fun _ _ _ h=>nomatch h.1) ?_
  refine D8 (md:=.any) (fuel:=4) (L:=[Bd 2 [] (τ (some ⟨ε w,0,none⟩) 2 2),Bd 3 [] (δ ((1:Nat):Int)),Bd 4 [2,3] (.pointer (some ⟨ε w,0 + 1 * 2,none⟩)),Bd 5 [2,3,4] (.pointer (some ⟨ε w,0 + 1 * 2 + 1,none⟩)),Bd 6 [2,3,4,5] (τ c l1.length a),Bd 7 [] (ζ b),⟨8,[7],[8],fun vs _=>∃ n d:Int,vs=[ψ [δ n,δ d]]⟩,⟨9,[7,8],[8,9],fun vs u=>∃ (n d:Int) (g:Nat),vs=[ψ [δ n,δ d],χ g 1 1]∧Wk w0 u [ι (ε w) [η [103,114,111,115,115],τ l l0.length j,η [116,105,109,101],τ c l1.length a] 90,ι g [δ n,δ d] 41] [BF w0 b ns,Bh b w,DO l j l0,DO c a l1] []⟩]) (W:=qa) (C:=fun u=>Wk w0 u [ι (ε w) [η [103,114,111,115,115],τ l l0.length j,η [116,105,109,101],τ c l1.length a] 90] [BF w0 b ns,Bh b w,DO l j l0,DO c a l1] []) (Ext:=fun u u'=>∀ (g:Nat) (n d:Int),Wk w0 u [ι (ε w) [η [103,114,111,115,115],τ l l0.length j,η [116,105,109,101],τ c l1.length a] 90,ι g [δ n,δ d] 41] [BF w0 b ns,Bh b w,DO l j l0,DO c a l1] []→Wk w0 u' [ι (ε w) [η [103,114,111,115,115],τ l l0.length j,η [116,105,109,101],τ c l1.length a] 90,ι g [δ n,δ d] 41] [BF w0 b ns,Bh b w,DO l j l0,DO c a l1] []) (K3.below (Below.refl _ _).drew) (fun _ _ _ _ K=>K) (fun _ _ _ h1 h2 g n d K=>h2 g n d (h1 g n d K)) ⟨?_,?_,?_,?_,?_,?_,?_,?_,trivial⟩ rfl ?_
  ·exact ⟨fun _ _ _ _ _ h=>h,fun vals u hu hb=>AN.knownE [] trivial (AN.reads ⟨0,[],(0,0),[]⟩ (fun e he=>by cases he) (τ (some ⟨ε w,0,none⟩) 2 2) ⟨hu,fun _ _ _ K=>K,rfl⟩)⟩
  ·exact ⟨fun _ _ _ _ _ h=>h,fun vals u hu hb=>AN.knownE [] trivial (AN.reads ⟨0,[],(0,0),[]⟩ (fun e he=>by cases he) (δ ((1:Nat):Int)) ⟨hu,fun _ _ _ K=>K,rfl⟩)⟩
  ·refine ⟨fun _ _ _ _ _ h=>h,fun vals u hu hb=>?_⟩
   obtain ⟨h2,h3,_⟩:=hb
   exact AN.knownE [(22,2,τ (some ⟨ε w,0,none⟩) 2 2),(23,3,δ ((1:Nat):Int))] ⟨(List.cons.inj h2).1,(List.cons.inj h3).1,trivial⟩ (AN.value (CE (sz:=2) (k:=1) (len:=2) (cap:=2) 35 (.tmp 22) (.tmp 23) (hx:=rfl) (hi:=rfl) (by decide) Tryz.underlying35) ⟨hu,fun _ _ _ K=>K,rfl⟩)
  ·refine ⟨fun _ _ _ _ _ h=>h,fun vals u hu hb=>?_⟩
   obtain ⟨h2,h3,h4,_⟩:=hb
   exact AN.knownE [(24,4,.pointer (some ⟨ε w,0 + 1 * 2,none⟩))] ⟨(List.cons.inj h4).1,trivial⟩ (AN.reads ⟨0,[],(0,0),[]⟩ (fun e he=>by cases he) (.pointer (some ⟨ε w,0 + 1 * 2 + 1,none⟩)) ⟨hu,fun _ _ _ K=>K,rfl⟩)
  ·refine ⟨fun _ _ _ _ _ h=>h,fun vals u hu hb=>?_⟩
   obtain ⟨h2,h3,h4,h5,_⟩:=hb
   exact AN.knownE [(25,5,.pointer (some ⟨ε w,0 + 1 * 2 + 1,none⟩))] ⟨(List.cons.inj h5).1,trivial⟩ (AN.reads ⟨0,[ι (ε w) [η [103,114,111,115,115],τ l l0.length j,η [116,105,109,101],τ c l1.length a] 90],(0,3),[]⟩ (fun e he=>by rw [List.mem_singleton.1 he]; exact hu.ent 0 rfl) (τ c l1.length a) ⟨hu,fun _ _ _ K=>K,rfl⟩)
  ·exact ⟨fun _ _ _ _ _ h=>h,fun vals u hu hb=>AN.knownE [] trivial (AN.reads ⟨0,[],(0,0),[]⟩ (fun e he=>by cases he) (ζ b) ⟨hu,fun _ _ _ K=>K,rfl⟩)⟩
  ·refine ⟨fun _ _ _ _ _ h=>h,fun vals u hu hb=>?_⟩
   obtain ⟨h7,_⟩:=hb
   refine AN.knownE [(27,7,ζ b)] ⟨(List.cons.inj h7).1,trivial⟩ (AN.call (f:=26) [.tmp 27] (ats:=#[23]) rfl (CV _ u) ((LJ b ns u (hu.tapeOk h0 0 rfl)).mono fun e w' hq=>?_))
   have o:=Fs.ok _ _ hq
   have Kt:=hu.tick h0 0 rfl o.1 o.2
   obtain ⟨n,d,rfl,_,_⟩:=hq
   exact ⟨_,rfl,Kt,fun _ _ _ K=>K.tick h0 0 rfl o.1 o.2,n,d,rfl⟩
  ·refine ⟨fun vs u u' _ hE h=>?_,fun vals u hu hb=>?_⟩
   ·obtain ⟨n,d,g,hv,K⟩:=h
    exact ⟨n,d,g,hv,hE g n d K⟩
   obtain ⟨_,⟨n,d,h8⟩,_⟩:=hb
   refine AN.knownE [(28,8,ψ [δ n,δ d])] ⟨(List.cons.inj h8).1,trivial⟩ (AN.runsK ⟨ε u,[],(0,0),[]⟩ ⟨ε u + 1,[ι (ε u) [δ n,δ d] 41],(0,0),[]⟩ (.value (τ (some ⟨ε u,0,none⟩) 1 1)) (τ (some ⟨ε u,0,none⟩) 1 1) (.inl rfl) (CW u) rfl fun w' hL hK=>?_)
   have B:Below (ε u) u w':=Ce hK
   have H:Aj (ε u) w' ([ι (ε u) [δ n,δ d] 41].map Th.ent++[]):=Aj.run (M:=[]) (Aj.nil (Nat.le_refl _)) hL hK rfl
   exact ⟨hu.below B,fun _ _ _ K=>K.below B,n,d,ε u,by rw [← (List.cons.inj h8).1]; rfl,hu.joinE B H⟩
  intro vals w3 _ _ t
  obtain ⟨_,_,_,_,x6,_,_,⟨r,y,gn,x8,z⟩,_⟩:=t
  refine Bs [(0,ζ b),(3,τ (some ⟨ε w,0,none⟩) 2 2),(4,δ ((1:Nat):Int)),(5,δ ((k + 1:Nat):Int)),(20,τ (some ⟨ε w,0,none⟩) 2 2),(21,δ ((1:Nat):Int)),(26,vals 6),(29,vals 9)] fun E9=>?_
  rw [show vals 6=τ c l1.length a from (List.cons.inj x6).1,show vals 9=χ gn 1 1 from (List.cons.inj (List.cons.inj x8).2).1]
  obtain ⟨A2,c2,w5,a0,H5,b5⟩:=PS (k:=54) (E:=_) z.H (z.ix 3) (z.at 3 rfl) (r,y) [δ r,δ y] rfl gn (z.ent 1 rfl) (FW.getD 10 default) (.tmp 26) (.tmp 29) 67 (by kernel_rfl) (by kernel_rfl) (by kernel_rfl) (by decide) (by kernel_rfl) (by kernel_rfl) rfl rfl (by omega)
  refine Ii (i:=10) (fuel:=3) (FW.getD 10 default) a0 ?_
  have K5:=z.put 3 (by simp) b5 H5
  refine Ii (i:=11) (fuel:=2) (FW.getD 11 default) (CE (g:=(ε w)) (off:=0) (sz:=2) (k:=1) (len:=2) (cap:=2) 35 (.tmp 20) (.tmp 21) (by decide) Tryz.underlying35) ?_
  refine GI (i:=12) K5 (FW.getD 12 default) (0,0) (.pointer (some ⟨ε w,0 + 1 * 2 + 1,none⟩)) fun w6 K6=>?_
  refine Pz (i:=13) K6 (FW.getD 13 default) [ι (ε w) [η [103,114,111,115,115],τ l l0.length j,η [116,105,109,101],τ A2 (l1++[(r,y)]).length c2] 90,ι gn [δ r,δ y] 41] (0,3) undef fun w7 K7=>?_
  refine FN ⟨rfl,At.mid ?_⟩
  refine AB (AZ OH) K7 [] fun w8 K8=>?_
  refine AU [(0,ζ b),(3,τ (some ⟨ε w,0,none⟩) 2 2),(4,δ ((1:Nat):Int)),(5,δ (IntKind.i64.wrap (((k + 1:Nat):Int) - 1)))] fun E8=>?_
  rw [show IntKind.i64.wrap (((k + 1:Nat):Int) - 1)=(k:Int) by rw [IntWalk.i64_in _ (by omega)]; omega]
  refine p _ _ ⟨k,l,l0,j,A2,l1++[(r,y)],c2,E8,rfl,by rw [List.length_append,List.length_singleton]; omega,K8.pk [0] [0,1,2,3]⟩ ?_
  show AL (δ ((k:Nat):Int)) < AL (δ ((k + 1:Nat):Int))
  simp only [AL]
  omega
 have b0:k=0:=by have:=of_decide_eq_false cc; omega
 subst b0
 refine AB (AZ OI) K2 [] fun w3 K3=>?_
 refine AU [(0,ζ b),(3,τ (some ⟨ε w,0,none⟩) 2 2),(4,δ (IntKind.i64.wrap (((1:Nat):Int) + 1)))] fun E3=>?_
 rw [Bl 1 (by omega)]
 exact s l l0 j c l1 a E3 w3 (by omega) (by omega) x.2.2.1 x.2.2.2 K3
theorem pq (b:Nat) (ns:List Int) (w:World) (hT:Be b ns w):Calls Tryz.prog 9 ([ζ b]:List Value).toArray w fun e w'=>∃ A c,∃ pa:List Dk,∃ L':List Th,e=.returned (τ A pa.length c)∧pa.length≤2∧(∀ x∈pa,x.2.length≤4)∧Aj (b + 1) w' L'∧(∀ u,Aj (b + 1) u L'→EW u A pa)∧Be b ns w'∧CG b w w':=by
 refine AS (fn:=Tryz.f9) (c:=Z1) (n:=54) ?_
 obtain ⟨w0,j,K0⟩:=Wk.tape hT
 have hw:=K0.B
 have d0:=hT.lt
 refine Ah OI [ι (ε w) [η [103,114,111,115,115],τ none 0 0,η [116,105,109,101],τ none 0 0] 90] K0 [] fun w1 K1=>?_
 have K2:=(K1.addNil 41 2 (fun (e:Int×Int) r=>r=BT e)).addNil 41 2 (fun (e:Int×Int) r=>r=BT e)
 refine AU [(0,ζ b),(3,τ (some ⟨ε w,0,none⟩) 2 2),(4,δ ((0:Nat):Int))] fun E1=>?_
 refine Bo (by kernel_rfl) (fun E wx=>∃ (i:Nat) (A0:Option Addr) (l0:List (Int×Int)) (m:Nat) (A1:Option Addr) (l1:List (Int×Int)) (l:Nat) (E0:Nat→Value),E=BE E0 [(0,ζ b),(3,τ (some ⟨ε w,0,none⟩) 2 2),(4,δ (i:Int))]∧((i=0∧l0.length=0∧l1.length=0)∨(i=1∧1≤l0.length∧l0.length≤4∧l1.length=0)∨(i=2∧1≤l0.length∧l0.length≤4∧1≤l1.length∧l1.length≤4))∧Wk w0 wx [ι (ε w) [η [103,114,111,115,115],τ A0 l0.length m,η [116,105,109,101],τ A1 l1.length l] 90] [BF w0 b ns,Bh b w,DO A0 m l0,DO A1 l l1] []) (fun E _=>2 - AL (E 4)) ⟨0,none,[],0,none,[],0,E1,rfl,.inl ⟨rfl,rfl,rfl⟩,K2⟩ ?_
 clear K0 K1 K2
 rintro E wx ⟨i,A0,l0,m,A1,l1,l,E0,rfl,hI,K1⟩ s
 refine AB cH K1 [] fun w2 K2=>?_
 refine AG (decide ((i:Int) < 2)) (fun cc=>?_) (fun cc=>?_)
 ·refine AB sP K2 [] fun w3 K3=>?_
  refine BK K3 j 0 rfl (BR b ns 4 w3 (K3.tapeOk j 0 rfl) (by omega) (by omega)) BX.ok fun e w4 z K4=>?_
  obtain ⟨k,hk,rfl,_,_⟩:=z
  refine ⟨_,rfl,?_⟩
  have r0:k≤3:=by omega
  refine AB OH K4 [] fun w5 K5=>?_
  refine AU [(0,ζ b),(3,τ (some ⟨ε w,0,none⟩) 2 2),(4,δ (i:Int)),(5,δ (IntKind.i64.wrap (1 + (k:Int))))] fun E5=>?_
  rw [show IntKind.i64.wrap (1 + (k:Int))=((k + 1:Nat):Int) by rw [IntWalk.i64_in _ (by omega)]; omega]
  rcases hI with ⟨rfl,h1,h2⟩ | ⟨rfl,h1,h2,h3⟩ | ⟨rfl,_⟩
  ·refine pp j d0 ⟨by omega,by omega,h2⟩ E5 w5 K5 fun A0 l0 m A1 l1 l E6 w6 g1 g2 g3 K6=>?_
   refine s _ _ ⟨1,A0,l0,m,A1,l1,l,E6,rfl,.inr (.inl ⟨rfl,g1,g2,g3⟩),K6⟩ ?_
   show 2 - AL (δ ((1:Nat):Int)) < 2 - AL (δ ((0:Nat):Int))
   decide
  ·refine po j d0 ⟨by omega,by omega,h1,h2⟩ E5 w5 K5 fun A0 l0 m A1 l1 l E6 w6 g1 g2 g3 g4 K6=>?_
   refine s _ _ ⟨2,A0,l0,m,A1,l1,l,E6,rfl,.inr (.inr ⟨rfl,g3,g4,g1,g2⟩),K6⟩ ?_
   show 2 - AL (δ ((2:Nat):Int)) < 2 - AL (δ ((1:Nat):Int))
   decide
  exact absurd cc (by decide)
 have m0:1≤l0.length∧l0.length≤4∧1≤l1.length∧l1.length≤4:=by
  have:=of_decide_eq_false cc
  omega
 clear hI s
 obtain ⟨e1,e2,e3,e4⟩:=m0
 refine AB sO K2 [] fun w3 K3=>?_
 refine BK K3 j 0 rfl (BR b ns 10 w3 (K3.tapeOk j 0 rfl) (by omega) (by omega)) BX.ok fun e w4 z K4=>?_
 obtain ⟨k,hk,rfl,_,_⟩:=z
 refine ⟨_,rfl,?_⟩
 refine AB cD K4 [] fun w5 K5=>?_
 refine AG ((k:Int) == 8) (fun q0=>?_) (fun q0=>?_)
 ·refine AB cC K5 [] fun w6 K6=>?_
  refine BK K6 j 0 rfl (BR b ns 2 w6 (K6.tapeOk j 0 rfl) (by omega) (by omega)) BX.ok fun e w7 z K7=>?_
  obtain ⟨q,k0,rfl,_,_⟩:=z
  refine ⟨_,rfl,?_⟩
  have j0:q < 2:=by omega
  refine Ak Ae sN K7 [] fun w8 K8=>?_
  refine Ay (g:=(ε w)) (off:=0) (cap:=2) (sz:=2) (k:=q) (len:=2) (some 40) j0 Tryz.underlying35 ?_
  have K9:=K8.addNil 41 2 (fun (e:Int×Int) r=>r=BT e)
  have p:q=0∨q=1:=by omega
  rcases p with rfl | rfl
  ·refine Ah jF [ι (ε w) [η [103,114,111,115,115],τ none 0 0,η [116,105,109,101],τ A1 l1.length l] 90] K9 [(0,1)] fun a0 a=>?_
   exact AK a (0,0) (τ (some ⟨ε w,0,none⟩) 2 2) (KX (l0:=[]) (a.pk [0] [0,1,4,3]) j hw (by simp) e4)
  refine Ah jF [ι (ε w) [η [103,114,111,115,115],τ A0 l0.length m,η [116,105,109,101],τ none 0 0] 90] K9 [(0,3)] fun a0 a=>?_
  exact AK a (0,0) (τ (some ⟨ε w,0,none⟩) 2 2) (KX (l1:=[]) (a.pk [0] [0,1,2,4]) j hw e2 (by simp))
 refine AB U3 K5 [] fun w6 K6=>?_
 refine AG ((k:Int) == 9) (fun p0=>?_) (fun p0=>?_)
 ·refine As 13 U2 K6 [] fun w7 K7=>?_
  obtain ⟨x0,t0,rfl⟩:∃ x t,l0=x :: t:=by cases l0 with | nil=>simp at e1 | cons x t=>exact ⟨x,t,rfl⟩
  obtain ⟨x1,t1,rfl⟩:∃ x t,l1=x :: t:=by cases l1 with | nil=>simp at e3 | cons x t=>exact ⟨x,t,rfl⟩
  obtain ⟨g0,rfl,_⟩:=K7.H.rowAt (K7.ix 2) (K7.at 2 rfl) (by simp)
  obtain ⟨g1,rfl,_⟩:=K7.H.rowAt (K7.ix 3) (K7.at 3 rfl) (by simp)
  refine ER I9 10 ?_
  refine D8 (md:=.any) (fuel:=2) (L:=[Bd 0 [] (τ (some ⟨ε w,0,none⟩) 2 2),Bd 1 [] (ζ b),⟨2,[1],[2],fun v _=>v=[δ ((0:Nat):Int)]∨v=[δ ((1:Nat):Int)]⟩,⟨3,[0,1,2],[2,3],fun v _=>(v=[δ ((0:Nat):Int),.pointer (some ⟨ε w,0 + 0 * 2,none⟩)]∨v=[δ ((1:Nat):Int),.pointer (some ⟨ε w,0 + 1 * 2,none⟩)])⟩,⟨4,[0,1,2,3],[2,4],fun v _=>(v=[δ ((0:Nat):Int),.pointer (some ⟨ε w,0 + 0 * 2 + 1,none⟩)]∨v=[δ ((1:Nat):Int),.pointer (some ⟨ε w,0 + 1 * 2 + 1,none⟩)])⟩,⟨5,[0,1,2,3,4],[2,5],fun v _=>(v=[δ ((0:Nat):Int),χ g0 (x0 :: t0).length m]∨v=[δ ((1:Nat):Int),χ g1 (x1 :: t1).length l])⟩,Bd 6 [] (ζ b),⟨7,[1,2,6],[7],fun v _=>∃ n d:Int,v=[ψ [δ n,δ d]]⟩]) (W:=wi) (C:=fun u=>Wk w0 u [ι (ε w) [η [103,114,111,115,115],χ g0 (x0 :: t0).length m,η [116,105,109,101],χ g1 (x1 :: t1).length l] 90] [BF w0 b ns,Bh b w,DO (θ g0) m (x0 :: t0),DO (θ g1) l (x1 :: t1)] []) (Ext:=fun _ _=>True) (K7.below (Below.refl _ _).drew) (fun _=>trivial) (fun _ _ _ _ _=>trivial) ⟨?_,?_,?_,?_,?_,?_,?_,?_,trivial⟩ rfl ?_
  ·exact ⟨fun _ _ _ _ _ h=>h,fun vals u hu hb=>AN.knownE [] trivial (AN.reads ⟨0,[],(0,0),[]⟩ (fun e he=>by cases he) (τ (some ⟨ε w,0,none⟩) 2 2) ⟨hu,trivial,rfl⟩)⟩
  ·exact ⟨fun _ _ _ _ _ h=>h,fun vals u hu hb=>AN.knownE [] trivial (AN.reads ⟨0,[],(0,0),[]⟩ (fun e he=>by cases he) (ζ b) ⟨hu,trivial,rfl⟩)⟩
  ·refine ⟨fun _ _ _ _ _ h=>h,fun vals u hu hb=>?_⟩
   obtain ⟨h1,_⟩:=hb
   refine AN.knownE [(45,1,ζ b)] ⟨(List.cons.inj h1).1,trivial⟩ (AN.call (f:=12) [.tmp 45,.const (δ 2)] (ats:=#[23,3]) rfl (CV _ u) ((BR b ns 2 u (hu.tapeOk j 0 rfl) (by omega) (by omega)).mono fun e w' z=>?_))
   have Kt:=hu.tick j 0 rfl (BX.ok _ _ z).1 (BX.ok _ _ z).2
   obtain ⟨q,k0,rfl,_,_⟩:=z
   have p:q=0∨q=1:=by omega
   rcases p with rfl | rfl
   ·exact ⟨_,rfl,Kt,trivial,.inl rfl⟩
   exact ⟨_,rfl,Kt,trivial,.inr rfl⟩
  ·refine ⟨fun _ _ _ _ _ h=>h,fun vals u hu hb=>?_⟩
   obtain ⟨i0,h1,h2,_⟩:=hb
   rcases h2 with h2 | h2
   ·exact AN.knownE [(44,0,τ (some ⟨ε w,0,none⟩) 2 2),(46,2,δ ((0:Nat):Int))] ⟨(List.cons.inj i0).1,(List.cons.inj h2).1,trivial⟩ (AN.value (CE (sz:=2) (k:=0) (len:=2) (cap:=2) 35 (.tmp 44) (.tmp 46) (hx:=rfl) (hi:=rfl) (by decide) Tryz.underlying35) ⟨hu,trivial,.inl (by rw [← (List.cons.inj h2).1]; rfl)⟩)
   exact AN.knownE [(44,0,τ (some ⟨ε w,0,none⟩) 2 2),(46,2,δ ((1:Nat):Int))] ⟨(List.cons.inj i0).1,(List.cons.inj h2).1,trivial⟩ (AN.value (CE (sz:=2) (k:=1) (len:=2) (cap:=2) 35 (.tmp 44) (.tmp 46) (hx:=rfl) (hi:=rfl) (by decide) Tryz.underlying35) ⟨hu,trivial,.inr (by rw [← (List.cons.inj h2).1]; rfl)⟩)
  ·refine ⟨fun _ _ _ _ _ h=>h,fun vals u hu hb=>?_⟩
   obtain ⟨_,_,_,h3,_⟩:=hb
   rcases h3 with h3 | h3
   ·exact AN.knownE [(47,3,.pointer (some ⟨ε w,0 + 0 * 2,none⟩))] ⟨(List.cons.inj (List.cons.inj h3).2).1,trivial⟩ (AN.reads ⟨0,[],(0,0),[]⟩ (fun e he=>by cases he) (.pointer (some ⟨ε w,0 + 0 * 2 + 1,none⟩)) ⟨hu,trivial,.inl (by rw [← (List.cons.inj h3).1]; rfl)⟩)
   exact AN.knownE [(47,3,.pointer (some ⟨ε w,0 + 1 * 2,none⟩))] ⟨(List.cons.inj (List.cons.inj h3).2).1,trivial⟩ (AN.reads ⟨0,[],(0,0),[]⟩ (fun e he=>by cases he) (.pointer (some ⟨ε w,0 + 1 * 2 + 1,none⟩)) ⟨hu,trivial,.inr (by rw [← (List.cons.inj h3).1]; rfl)⟩)
  ·refine ⟨fun _ _ _ _ _ h=>h,fun vals u hu hb=>?_⟩
   obtain ⟨_,_,_,_,h4,_⟩:=hb
   rcases h4 with h4 | h4
   ·exact AN.knownE [(48,4,.pointer (some ⟨ε w,0 + 0 * 2 + 1,none⟩))] ⟨(List.cons.inj (List.cons.inj h4).2).1,trivial⟩ (AN.reads ⟨0,[ι (ε w) [η [103,114,111,115,115],χ g0 (x0 :: t0).length m,η [116,105,109,101],χ g1 (x1 :: t1).length l] 90],(0,1),[]⟩ (fun e he=>by rw [List.mem_singleton.1 he]; exact hu.ent 0 rfl) (χ g0 (x0 :: t0).length m) ⟨hu,trivial,.inl (by rw [← (List.cons.inj h4).1]; rfl)⟩)
   exact AN.knownE [(48,4,.pointer (some ⟨ε w,0 + 1 * 2 + 1,none⟩))] ⟨(List.cons.inj (List.cons.inj h4).2).1,trivial⟩ (AN.reads ⟨0,[ι (ε w) [η [103,114,111,115,115],χ g0 (x0 :: t0).length m,η [116,105,109,101],χ g1 (x1 :: t1).length l] 90],(0,3),[]⟩ (fun e he=>by rw [List.mem_singleton.1 he]; exact hu.ent 0 rfl) (χ g1 (x1 :: t1).length l) ⟨hu,trivial,.inr (by rw [← (List.cons.inj h4).1]; rfl)⟩)
  ·exact ⟨fun _ _ _ _ _ h=>h,fun vals u hu hb=>AN.knownE [] trivial (AN.reads ⟨0,[],(0,0),[]⟩ (fun e he=>by cases he) (ζ b) ⟨hu,trivial,rfl⟩)⟩
  ·refine ⟨fun _ _ _ _ _ h=>h,fun vals u hu hb=>?_⟩
   obtain ⟨_,_,h6,_⟩:=hb
   refine AN.knownE [(50,6,ζ b)] ⟨(List.cons.inj h6).1,trivial⟩ (AN.call (f:=27) [.tmp 50] (ats:=#[23]) rfl (CV _ u) ((Ns b ns u (hu.tapeOk j 0 rfl)).mono fun e w' z=>?_))
   have Kt:=hu.tick j 0 rfl (Fs.ok _ _ z).1 (Fs.ok _ _ z).2
   obtain ⟨n,d,rfl,_,_⟩:=z
   exact ⟨_,rfl,Kt,trivial,n,d,rfl⟩
  intro vals w8 K8 _ e0
  obtain ⟨_,_,x2,_,_,x5,_,⟨nn,dd,x7⟩,_⟩:=e0
  refine Bs [(3,τ (some ⟨ε w,0,none⟩) 2 2),(49,vals 5),(51,vals 7)] fun E9=>?_
  rw [show vals 7=ψ [δ nn,δ dd] from (List.cons.inj x7).1]
  rcases x5 with x5 | x5
  ·rw [show vals 5=χ g0 (x0 :: t0).length m from (List.cons.inj (List.cons.inj x5).2).1]
   refine Ii (i:=8) (fuel:=1) (I9.getD 8 default) (CE (g:=g0) (off:=0) (sz:=2) (k:=0) (len:=(x0 :: t0).length) (cap:=m) 67 (.tmp 49) (.const (δ 0)) (Nat.succ_pos _) Tryz.underlying67) ?_
   obtain ⟨w9,b0,H9,b9⟩:=Qx (ρ:=A8 54 _) (o:=I9.getD 9 default) (f:=BT) (e':=(nn,dd)) (fun _=>rfl) K8.H (K8.ix 2) (K8.at 2 rfl) (t:=41) (x:=.tmp 52) (y:=.tmp 51) (by kernel_rfl) (by kernel_rfl) (by kernel_rfl) (by kernel_rfl) rfl
   refine MA (i:=9) (fuel:=0) (I9.getD 9 default) (by kernel_rfl) (by kernel_rfl) (by kernel_rfl) b0 (FN ⟨rfl,At.mid ?_⟩)
   have K9:=K8.put 2 (by simp) b9 H9
   refine AB jE K9 [] fun a0 a=>?_
   exact AK a (0,0) (τ (some ⟨ε w,0,none⟩) 2 2) (KX (l0:=(nn,dd) :: t0) (l1:=x1 :: t1) (a.pk [0] [0,1,2,3]) j hw e2 e4)
  rw [show vals 5=χ g1 (x1 :: t1).length l from (List.cons.inj (List.cons.inj x5).2).1]
  refine Ii (i:=8) (fuel:=1) (I9.getD 8 default) (CE (g:=g1) (off:=0) (sz:=2) (k:=0) (len:=(x1 :: t1).length) (cap:=l) 67 (.tmp 49) (.const (δ 0)) (Nat.succ_pos _) Tryz.underlying67) ?_
  obtain ⟨w9,b0,H9,b9⟩:=Qx (ρ:=A8 54 _) (o:=I9.getD 9 default) (f:=BT) (e':=(nn,dd)) (fun _=>rfl) K8.H (K8.ix 3) (K8.at 3 rfl) (t:=41) (x:=.tmp 52) (y:=.tmp 51) (by kernel_rfl) (by kernel_rfl) (by kernel_rfl) (by kernel_rfl) rfl
  refine MA (i:=9) (fuel:=0) (I9.getD 9 default) (by kernel_rfl) (by kernel_rfl) (by kernel_rfl) b0 (FN ⟨rfl,At.mid ?_⟩)
  have K9:=K8.put 3 (by simp) b9 H9
  refine AB jE K9 [] fun a0 a=>?_
  exact AK a (0,0) (τ (some ⟨ε w,0,none⟩) 2 2) (KX (l0:=x0 :: t0) (l1:=(nn,dd) :: t1) (a.pk [0] [0,1,2,3]) j hw e2 e4)
 refine AB xt K6 [] fun w7 K7=>?_
 exact AK K7 (0,0) (τ (some ⟨ε w,0,none⟩) 2 2) (KX K7 j hw e2 e4)
end
end Go.Proofs.YtkjbdagicjbjjaaGreat

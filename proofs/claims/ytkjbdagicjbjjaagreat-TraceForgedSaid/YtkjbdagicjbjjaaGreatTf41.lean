/-
  Part 41 of a proof: contracts of functions.
-/
import Derived.Test.YtkjbdagicjbjjaaGreatTf38
set_option linter.all false
namespace Go.Proofs.YtkjbdagicjbjjaaGreat
noncomputable section
open Go.RowKit
set_option maxRecDepth 100000
set_option maxHeartbeats 1000000
def Gu:Op→Bool
 | .fieldAddr _ _ _=>true
 | _=>false
theorem V2 {S:Nat→Prop} {w:World} {e:Ex} (h:e.ks=[]):Cz S w e (AW e none 0):=NS (ks:=[]) (by rw [h]; unfold Eu; rfl) (.inl rfl)
theorem KI.leaf {b:Nat} {ns:List Int} {n:Int} {h:Nat} {t:Ty} {w w':World} {x:Ex} (hx:DK n h t x) (a:x.ks=[]) (ho:BW b ns w'∧CE b w w'):KI b ns n h t w (.returned (.agg ⟨AW x none 0⟩)) w':=⟨x,none,0,rfl,hx,V2 a,ho⟩
theorem IB {t s:Ty} (h:Gp t s=true):t=s:=by
 obtain ⟨a,b,c,d⟩:=t
 obtain ⟨i,g,f,e⟩:=s
 unfold Gp at h
 simp only [Bool.and_eq_true,beq_iff_eq] at h
 obtain ⟨rfl,rfl,rfl,rfl⟩:=h
 rfl
theorem tB {t:Ty} (h:t∈JJ) (c:Gp t DX=false) (h2:Gp t C1=false) (b:Gp t ED=false) (a:Gp t CJ=false):t=Bf:=by
 simp only [JJ,List.mem_cons,List.not_mem_nil,or_false] at h
 rcases h with rfl | rfl | rfl | rfl | rfl
 ·rfl
 ·cases h2
 ·cases b
 ·cases a
 ·cases c
attribute [local irreducible] A8 BL AC AD AF Ao AY AL Aq Bb Cn BR GR Dx Cm BK At Fr
noncomputable def YQ:Code:=Tryz.f31.body.getD .skip
def Z9:=AA 60 [.code YQ]
def pw:=AA (Ak (EO) 90 (AC Z9)) (AC Z9)
def SR:=AA 60 (AC pw)
def Z8:=AA (Ak (BS) 90 (AD SR)) (AD SR)
def Z6:=AA 60 (AC Z8)
def Z5:=AA (Ak (BS) 90 (AD Z6)) (AD Z6)
def SQ:=AA 60 (AC Z5)
def SP:=AA 60 (AC SQ)
def pu:=AA 60 (AD SP)
def AAn:=AA 60 (AC pu)
def GN:=AA (Ak (Gu) 90 (AF SP)) (AF SP)
def T0:=AA 60 (AF SR)
def gK:=AA (Ak (EO) 90 (AC T0)) (AC T0)
def Tz:=AA 60 (AC gK)
def gJ:=AA 60 (AD Tz)
def Tx:=AA 60 (AC gJ)
def gI:=AA 60 (AD Tx)
def gH:=AA 60 (AC gI)
def uy:=AA 60 (AC gH)
def Tw:=AA 60 (AF Tx)
def Tv:=AA (Ak (BS) 90 (AD Tw)) (AD Tw)
def O6:=AA 60 (AC Tv)
def O5:=AA (Ak (BS) 90 (AD O6)) (AD O6)
def Tu:=AA 60 (AF Tz)
def gG:=AA (Ak (EO) 90 (AC Tu)) (AC Tu)
def O4:=AA 60 (AC gG)
def Tt:=AA (Ak (BS) 90 (AD O4)) (AD O4)
def gF:=AA 60 (AC Tt)
def gE:=AA 60 (AC gF)
def gD:=AA 60 (AD gE)
def gC:=AA 60 (AC gD)
def ux:=AA 60 (AC gC)
def Tr:=AA 60 (AF O4)
def f5:=AA (Ak (EO) 90 (AC Tr)) (AC Tr)
def O3:=AA 60 (AC f5)
def Tq:=AA 60 (AD O3)
def f2:=AA (Ak (BS) 90 (AD Tq)) (AD Tq)
def Tp:=AA (Ak (BS) 90 (AF O3)) (AF O3)
def To:=AA 60 (AC Tp)
def f0:=AA (Ak (BS) 90 (AD To)) (AD To)
def fz:=AA 60 GN
def Jh:=AA 60 (AC fz)
def Tn:=AA 60 (AD Jh)
def fy:=AA (Ak (Aa) 90 (AC Tn)) (AC Tn)
def uw:=AA 60 (AC (AC fy))
def fx:=AA 60 (AF Jh)
def uv:=AA 60 (AL fx)
theorem Fo {R:Ending→World→Prop} {b:Nat} {ns:List Int} {n:Int} {h:Nat} {t:Ty} {w w0 u:World} {A:Option Addr} {c:Nat} {l:List (List UInt8)} {E:Nat→Value} (j:w0.heap.size=b) (hw:Below w0.heap.size w0 w) (h5:t∈JJ) (hl:∀ nm∈l,nm∈Pp t n) (c0:t.1=true→0 < l.length) (d0:l.length≤2) (hR:∀ e w',KI b ns n (h + 1) t w e w'→R e w')
  (K:Wk w0 u [⟨w.heap.size,0,Av t,56,true⟩,⟨w.heap.size + 1,0,AW BO none 0,53,true⟩] [BH w0 b ns,Bj b w,Gh A c l] []):At Tryz.prog 31 R GN (Fr 106 (BC E [(0,BY b),(4,BY (w.heap.size)),(6,BY (w.heap.size + 1)),(7,.slice A l.length c),(84,.bool (decide (0 < (l.length:Int))))])) u:=by
 have num:∀ u (E:Nat→Value),t.1=false→Wk w0 u [⟨w.heap.size,0,Av t,56,true⟩,⟨w.heap.size + 1,0,AW BO none 0,53,true⟩] [BH w0 b ns,Bj b w,Gh A c l] []→At Tryz.prog 31 R (AF Jh) (Fr 106 (BC E [(0,BY b),(4,BY (w.heap.size)),(6,BY (w.heap.size + 1))])) u:=by
  intro u E ht K
  refine AB fx K [] fun i d=>?_
  refine Ee d j 0 rfl [0,1,2,3] [⟨w.heap.size,0,Av t,56,true⟩] [(3,0,1)] [(1,fun v _=>∃ q∈Ho,v=.agg ⟨[AI q.1,AI q.2]⟩)] 2 (fun u hu e he=>by rw [List.mem_singleton.1 he]; exact hu.ent 0 rfl) (fun p s v u u' _ h=>by rw [List.mem_singleton.1 s] at h ⊢; exact h) (fun p s X u hu hb hf=>?_) fun X u hu hb hf=>?_
  ·rw [List.mem_singleton.1 s]
   exact Bn (g:=34) (xs:=[.tmp 101]) (args:=[BY b]) ((yv b ns u (hu.tapeOk j 0 rfl)).mono fun e w' hh=>by
    obtain ⟨q,m,rfl,h1,h2⟩:=hh
    exact ⟨_,rfl,h1,h2,q,m,rfl⟩) rfl
  obtain ⟨q,m,hX⟩:∃ q∈Ho,X 1=.agg ⟨[AI q.1,AI q.2]⟩:=hf 1 (by simp) rfl
  refine CI [(6,BY (w.heap.size + 1)),(102,X 1),(104,.agg ⟨[AI t.2.1,AI t.2.2.1,AI t.2.2.2]⟩)] fun E2=>?_
  rw [hX]
  refine Dv hu [(4,0,0),(5,1,0)] (fun _=>[⟨w.heap.size,0,Av t,56,true⟩,⟨w.heap.size + 1,0,AW (.mk 1 q.1 q.2 t.2.1 t.2.2.1 t.2.2.2 [] 0 0 []) none 0,53,true⟩]) fun z w3 f=>?_
  refine Af uv [⟨w.heap.size,0,Av t,56,true⟩,⟨w.heap.size + 1,0,AW (.mk 1 q.1 q.2 t.2.1 t.2.2.1 t.2.2.2 [] 0 0 []) none 0,53,true⟩] f [] fun w4 K4=>?_
  exact AJ K4 (1,0) (.agg ⟨AW (.mk 1 q.1 q.2 t.2.1 t.2.2.1 t.2.2.2 [] 0 0 []) none 0⟩) (hR _ _ (.leaf (.num h t q ht h5 m) rfl (K4.out j hw)))
 have y:∀ u (E:Nat→Value),0 < l.length→Wk w0 u [⟨w.heap.size,0,Av t,56,true⟩,⟨w.heap.size + 1,0,AW BO none 0,53,true⟩] [BH w0 b ns,Bj b w,Gh A c l] []→At Tryz.prog 31 R (AD Jh) (Fr 106 (BC E [(0,BY b),(4,BY (w.heap.size)),(6,BY (w.heap.size + 1)),(7,.slice A l.length c)])) u:=by
  intro u E a K
  refine AB Tn K [] fun i d=>?_
  refine BE d j 0 rfl (args:=[BY b,AI (l.length:Int)]) (BM b ns l.length i (d.tapeOk j 0 rfl) (by omega) (by omega)) BQ.ok fun e w2 m K2=>?_
  obtain ⟨k,hk,rfl,_,_⟩:=m
  refine ⟨_,rfl,?_⟩
  have b0:k < l.length:=by omega
  obtain ⟨nm,a0⟩:∃ x,l[k]?=some x:=⟨_,List.getElem?_eq_getElem b0⟩
  refine Ae Aa fy K2 [] fun w3 f=>?_
  obtain ⟨g,off,rfl,hg,hr⟩:=(f.H.rowsStr (f.ix 2) (f.at 2 rfl)).all a
  refine Au (g:=g) (off:=off) (cap:=c) (sz:=1) (k:=k) (len:=l.length) (some 98) b0 Tryz.underlying65 ?_
  refine Dh 9 g (off + k * 1) (By nm) (some 99) (hr k nm a0 0 _ rfl) ?_
  refine Af uw [⟨w.heap.size,0,Av t,56,true⟩,⟨w.heap.size + 1,0,AW (.mk 3 0 0 0 0 0 nm 0 0 []) none 0,53,true⟩] f [(1,0)] fun w4 K4=>?_
  exact AJ K4 (1,0) (.agg ⟨AW (.mk 3 0 0 0 0 0 nm 0 0 []) none 0⟩) (hR _ _ (.leaf (.name h t nm (hl nm (List.mem_of_getElem? a0))) rfl (K4.out j hw)))
 cases a:l with
 | nil=>
  subst a
  have ht:t.1=false:=by
   cases ht:t.1
   ·rfl
   ·exact absurd (c0 ht) (Nat.lt_irrefl 0)
  refine AB Jh K [(0,0)] fun i d=>?_
  refine AG false (fun h=>by cases h) (fun _=>?_)
  refine AU [(0,BY b),(4,BY (w.heap.size)),(6,BY (w.heap.size + 1))] fun o=>?_
  exact num i o ht d
 | cons x r=>
  rw [← a]
  have s:0 < l.length:=by rw [a]; exact Nat.succ_pos _
  rw [show decide (0 < (l.length:Int))=true from decide_eq_true (by omega)]
  rcases t with ⟨tb,tr⟩
  cases tb
  ·refine AB fz K [(0,0)] fun i d=>?_
   refine BE d j 0 rfl (args:=[BY b,AI 3]) (BM b ns 3 i (d.tapeOk j 0 rfl) (by omega) (by omega)) BQ.ok fun e w2 m K2=>?_
   obtain ⟨k,hk,rfl,_,_⟩:=m
   refine ⟨_,rfl,?_⟩
   refine AB Jh K2 [] fun w3 f=>?_
   refine AG (decide (0 < (k:Int))) (fun _=>?_) (fun _=>?_)
   ·refine AU [(0,BY b),(4,BY (w.heap.size)),(6,BY (w.heap.size + 1)),(7,.slice A l.length c)] fun o=>?_
    exact y w3 o s f
   ·refine AU [(0,BY b),(4,BY (w.heap.size)),(6,BY (w.heap.size + 1))] fun o=>?_
    exact num w3 o rfl f
  ·refine AB Jh K [(0,0)] fun i d=>?_
   refine AG true (fun _=>?_) (fun h=>by cases h)
   refine AU [(0,BY b),(4,BY (w.heap.size)),(6,BY (w.heap.size + 1)),(7,.slice A l.length c)] fun o=>?_
   exact y i o s d
theorem AB8 (b:Nat) (ns:List Int) (n:Int) (h:Nat) (t:Ty) (h5:t∈JJ) (w:World) (hT:BW b ns w):Calls Tryz.prog 31 ([BY b,.agg ⟨Av t⟩,AI n]:List Value).toArray w (KI b ns n (h + 1) t w):=by
 refine AR (args:=[BY b,.agg ⟨Av t⟩,AI n]) (fn:=Tryz.f31) (c:=YQ) (n:=106) ?_
 obtain ⟨w0,i,K0⟩:=Wk.tape hT
 have hw:=K0.B
 refine Af Z9 [⟨w.heap.size,0,Av t,56,true⟩,⟨w.heap.size + 1,0,AW BO none 0,53,true⟩] (K0.addNil 9 1 (fun e r=>r=JC e)) [(0,0)] fun w1 K1=>?_
 refine AQ K1 (args:=[]) (KJ _) fun w2 K2=>?_
 refine Ae EO pw K2 [] fun w3 K3=>?_
 refine C4 (Cy (k:=.eql) (T:=56) (a:=.agg ⟨Av t⟩) (b:=.agg ⟨Av DX⟩) (D5 _ _ _ _ _ _ _ _ _)) ?_
 refine AB SR K3 [] fun w4 K4=>?_
 refine AG (Gp t DX) (fun ct=>?_) (fun ct=>?_)
 ·have e1:=IB ct
  refine CA BS Z8 [⟨w.heap.size,0,Av t,56,true⟩,⟨w.heap.size + 1,0,AW BO none 0,53,true⟩,⟨w4.heap.size,0,[By [102]],9,true⟩] K4 [] fun w5 K5=>?_
  refine Cg K5.H (K5.ix 2) (K5.at 2 rfl) [102] (JC [102]) rfl (w4.heap.size) (K5.ent 2 (by kernel_rfl)) (Br Z8) (by kernel_rfl) (.tmp 20) (.tmp 21) 65 (by kernel_rfl) (by kernel_rfl) (by kernel_rfl) (by decide) (by kernel_rfl) (by kernel_rfl) rfl rfl (by decide) fun A5 c5 w6 s1 b5=>?_
  have K6:Wk w0 w6 [⟨w.heap.size,0,Av t,56,true⟩,⟨w.heap.size + 1,0,AW BO none 0,53,true⟩] [BH w0 b ns,Bj b w,Gh A5 c5 [[102]]] []:=(K5.put 2 (by simp) b5 s1).pk [0,1] [0,1,2]
  refine AB Z6 K6 [] fun w7 K7=>?_
  have fin:∀ (A:Option Addr) (c:Nat) (l:List (List UInt8)) (u:World) (E:Nat→Value),0 < l.length→l.length≤2→(∀ nm∈l,nm∈Pp t n)→Wk w0 u [⟨w.heap.size,0,Av t,56,true⟩,⟨w.heap.size + 1,0,AW BO none 0,53,true⟩] [BH w0 b ns,Bj b w,Gh A c l] []→At Tryz.prog 31 (KI b ns n (h + 1) t w) SQ (Fr 106 (BC E [(0,BY b),(4,BY (w.heap.size)),(6,BY (w.heap.size + 1)),(7,.slice A l.length c),(28,BY b)])) u:=fun A c l u E p1 o1 hl K=>by
   refine BE K i 0 rfl (args:=[BY b,AI 2]) (BM b ns 2 _ (K.tapeOk i 0 rfl) (by omega) (by omega)) BQ.ok fun e w8 hq K8=>?_
   obtain ⟨k8,a2,rfl,_,_⟩:=hq
   refine ⟨_,rfl,?_⟩
   refine AB SP K8 [] fun w9 x=>?_
   refine AG ((k8:Int) == 0) (fun _=>?_) (fun _=>?_)
   ·refine AB pu x [] fun a0 f=>?_
    refine BE f i 0 rfl (args:=[BY b,AI 2]) (BM b ns 2 _ (f.tapeOk i 0 rfl) (by omega) (by omega)) BQ.ok fun e p hq j=>?_
    obtain ⟨b1,x1,rfl,_,_⟩:=hq
    refine ⟨_,rfl,?_⟩
    refine Af AAn [⟨w.heap.size,0,Av t,56,true⟩,⟨w.heap.size + 1,0,AW (.mk 2 0 0 0 0 0 [] (b1:Int) 0 []) none 0,53,true⟩] j [(1,0)] fun o d=>?_
    refine AJ d (1,0) (.agg ⟨AW (.mk 2 0 0 0 0 0 [] (b1:Int) 0 []) none 0⟩) (.leaf ?_ rfl (d.out i hw))
    rw [e1]
    exact .tru h _ (by omega)
   ·refine Ae Gu GN x [] fun a0 f=>?_
    refine AU [(0,BY b),(4,BY (w.heap.size)),(6,BY (w.heap.size + 1)),(7,.slice A l.length c),(84,.bool (decide (0 < (l.length:Int))))] fun b2=>?_
    exact Fo i hw h5 hl (fun _=>p1) o1 (fun _ _ h=>h) f
  refine AG (decide (3 < n)) (fun c2=>?_) (fun c2=>?_)
  ·skip
   refine CA BS Z5 [⟨w.heap.size,0,Av t,56,true⟩,⟨w.heap.size + 1,0,AW BO none 0,53,true⟩,⟨w7.heap.size,0,[By [114,51]],9,true⟩] K7 [] fun a0 f=>?_
   refine Cg f.H (f.ix 2) (f.at 2 rfl) [114,51] (JC [114,51]) rfl (w7.heap.size) (f.ent 2 (by kernel_rfl)) (Br Z5) (by kernel_rfl) (.tmp 25) (.tmp 26) 65 (by kernel_rfl) (by kernel_rfl) (by kernel_rfl) (by decide) (by kernel_rfl) (by kernel_rfl) rfl rfl (by decide) fun e0 d0 p l0 t0=>?_
   have j:Wk w0 p [⟨w.heap.size,0,Av t,56,true⟩,⟨w.heap.size + 1,0,AW BO none 0,53,true⟩] [BH w0 b ns,Bj b w,Gh e0 d0 [[102],[114,51]]] []:=(f.put 2 (by simp) t0 l0).pk [0,1] [0,1,2]
   refine AB SQ j [] fun o d=>?_
   refine AU [(0,BY b),(4,BY (w.heap.size)),(6,BY (w.heap.size + 1)),(7,.slice e0 [[102],[114,51]].length d0),(28,BY b)] fun m0=>?_
   exact fin e0 d0 [[102],[114,51]] o m0 (by decide) (by decide) (fun nm hm=>by rw [e1]; show nm∈[102] :: cond (decide (3 < n)) [[114,51]] []; rw [c2]; exact hm) d
  ·refine AB SQ K7 [] fun o d=>?_
   refine AU [(0,BY b),(4,BY (w.heap.size)),(6,BY (w.heap.size + 1)),(7,.slice A5 [[102]].length c5),(28,BY b)] fun m0=>?_
   exact fin A5 c5 [[102]] o m0 (by decide) (by decide) (fun nm hm=>by rw [e1]; show nm∈[102] :: cond (decide (3 < n)) [[114,51]] []; rw [c2]; exact hm) d
 refine AB T0 K4 [] fun w5 K5=>?_
 refine AQ K5 (args:=[]) (GC _) fun w6 K6=>?_
 refine Ae EO gK K6 [] fun w7 K7=>?_
 refine C4 (Cy (k:=.eql) (T:=56) (a:=.agg ⟨Av t⟩) (b:=.agg ⟨Av C1⟩) (D5 _ _ _ _ _ _ _ _ _)) ?_
 refine AB Tz K7 [] fun w8 K8=>?_
 refine AG (Gp t C1) (fun cm=>?_) (fun cm=>?_)
 ·have e2:=IB cm
  refine AB gJ K8 [] fun w9 x=>?_
  refine BE x i 0 rfl (args:=[BY b,AI 4]) (BM b ns 4 _ (x.tapeOk i 0 rfl) (by omega) (by omega)) BQ.ok fun e a0 hq f=>?_
  obtain ⟨n1,z1,rfl,_,_⟩:=hq
  refine ⟨_,rfl,?_⟩
  refine AB Tx f [] fun p j=>?_
  refine AG ((n1:Int) == 3) (fun _=>?_) (fun _=>?_)
  ·skip
   refine Af gI [⟨w.heap.size,0,Av t,56,true⟩,⟨w.heap.size + 1,0,AW BO none 0,53,true⟩,⟨p.heap.size,0,[AI 20,AI 21],3,true⟩] j [] fun o d=>?_
   refine BE d i 0 rfl (args:=[BY b,.slice (IN p.heap.size) 2 2]) (In b ns p.heap.size [20,21] 2 o (d.tapeOk i 0 rfl) (Nat.ne_of_gt (j.tapeOk i 0 rfl).lt) (by decide) (by decide) (d.ent 2 (by kernel_rfl))) (fun e w' ⟨_,_,_,h1,h2⟩=>⟨h1,h2⟩) fun e z hq q=>?_
   obtain ⟨op,hop,rfl,_,_⟩:=hq
   refine ⟨_,rfl,?_⟩
   refine AB gH q [] fun c0 m=>?_
   refine BE m i 0 rfl (args:=[BY b,AI 3]) (BM b ns 3 _ (m.tapeOk i 0 rfl) (by omega) (by omega)) BQ.ok fun e b0 hq y=>?_
   obtain ⟨a1,u1,rfl,_,_⟩:=hq
   refine ⟨_,rfl,?_⟩
   have g0:op=20∨op=21:=by simpa using hop
   refine Af uy [⟨w.heap.size,0,Av t,56,true⟩,⟨w.heap.size + 1,0,AW (.mk op 0 0 0 0 0 [103,114,111,115,115] (IntKind.i64.wrap (1 + (a1:Int))) 0 []) none 0,53,true⟩,⟨p.heap.size,0,[AI 20,AI 21],3,true⟩] y [(1,0)] fun r0 g=>?_
   refine AJ g (1,0) (.agg ⟨AW (.mk op 0 0 0 0 0 [103,114,111,115,115] (IntKind.i64.wrap (1 + (a1:Int))) 0 []) none 0⟩) (.leaf ?_ rfl (g.out i hw))
   rw [IntWalk.i64_in _ (by omega)]
   exact .past h t [103,114,111,115,115] op _ (.inl ⟨e2,rfl⟩) g0 (by omega) (by omega)
  refine AB Tw j [] fun o d=>?_
  refine AG (decide (2 < n)) (fun c2=>?_) (fun c2=>?_)
  ·skip
   refine CA BS Tv [⟨w.heap.size,0,Av t,56,true⟩,⟨w.heap.size + 1,0,AW BO none 0,53,true⟩,⟨o.heap.size,0,[By [114,50]],9,true⟩] d [] fun z q=>?_
   refine Cg q.H (q.ix 2) (q.at 2 rfl) [114,50] (JC [114,50]) rfl (o.heap.size) (q.ent 2 (by kernel_rfl)) (Br Tv) (by kernel_rfl) (.tmp 49) (.tmp 50) 65 (by kernel_rfl) (by kernel_rfl) (by kernel_rfl) (by decide) (by kernel_rfl) (by kernel_rfl) rfl rfl (by decide) fun k1 c1 c0 f1 q1=>?_
   have m:Wk w0 c0 [⟨w.heap.size,0,Av t,56,true⟩,⟨w.heap.size + 1,0,AW BO none 0,53,true⟩] [BH w0 b ns,Bj b w,Gh k1 c1 [[114,50]]] []:=(q.put 2 (by simp) q1 f1).pk [0,1] [0,1,2]
   refine AB O6 m [] fun b0 y=>?_
   refine AG (decide (4 < n)) (fun c3=>?_) (fun c3=>?_)
   ·skip
    refine CA BS O5 [⟨w.heap.size,0,Av t,56,true⟩,⟨w.heap.size + 1,0,AW BO none 0,53,true⟩,⟨b0.heap.size,0,[By [97]],9,true⟩] y [] fun r0 g=>?_
    refine Cg g.H (g.ix 2) (g.at 2 rfl) [97] (JC [97]) rfl (b0.heap.size) (g.ent 2 (by kernel_rfl)) (Br O5) (by kernel_rfl) (.tmp 54) (.tmp 55) 65 (by kernel_rfl) (by kernel_rfl) (by kernel_rfl) (by decide) (by kernel_rfl) (by kernel_rfl) rfl rfl (by decide) fun n0 i0 q0 k0 s0=>?_
    have j0:Wk w0 q0 [⟨w.heap.size,0,Av t,56,true⟩,⟨w.heap.size + 1,0,AW BO none 0,53,true⟩] [BH w0 b ns,Bj b w,Gh n0 i0 [[114,50],[97]]] []:=(g.put 2 (by simp) s0 k0).pk [0,1] [0,1,2]
    refine Ae Gu GN j0 [] fun p0 v=>?_
    refine AU [(0,BY b),(4,BY (w.heap.size)),(6,BY (w.heap.size + 1)),(7,.slice n0 [[114,50],[97]].length i0),(84,.bool (decide (0 < ([[114,50],[97]].length:Int))))] fun x0=>?_
    refine Fo (l:=[[114,50],[97]]) i hw h5 (fun nm hm=>?_) (fun s=>?_) (by decide) (fun _ _ h=>h) v
    ·rw [e2]
     show nm∈cond (decide (2 < n)) [[114,50]] []++cond (decide (4 < n)) [[97]] []
     rw [c2,c3]; exact hm
    ·rw [e2] at s
     cases s
   ·skip
    refine Ae Gu GN y [] fun p0 v=>?_
    refine AU [(0,BY b),(4,BY (w.heap.size)),(6,BY (w.heap.size + 1)),(7,.slice k1 [[114,50]].length c1),(84,.bool (decide (0 < ([[114,50]].length:Int))))] fun x0=>?_
    refine Fo (l:=[[114,50]]) i hw h5 (fun nm hm=>?_) (fun s=>?_) (by decide) (fun _ _ h=>h) v
    ·rw [e2]
     show nm∈cond (decide (2 < n)) [[114,50]] []++cond (decide (4 < n)) [[97]] []
     rw [c2,c3]; exact hm
    ·rw [e2] at s
     cases s
  ·refine AB O6 d [] fun b0 y=>?_
   refine AG (decide (4 < n)) (fun c3=>?_) (fun c3=>?_)
   ·skip
    refine CA BS O5 [⟨w.heap.size,0,Av t,56,true⟩,⟨w.heap.size + 1,0,AW BO none 0,53,true⟩,⟨b0.heap.size,0,[By [97]],9,true⟩] y [] fun r0 g=>?_
    refine Cg g.H (g.ix 2) (g.at 2 rfl) [97] (JC [97]) rfl (b0.heap.size) (g.ent 2 (by kernel_rfl)) (Br O5) (by kernel_rfl) (.tmp 54) (.tmp 55) 65 (by kernel_rfl) (by kernel_rfl) (by kernel_rfl) (by decide) (by kernel_rfl) (by kernel_rfl) rfl rfl (by decide) fun n0 i0 q0 k0 s0=>?_
    have j0:Wk w0 q0 [⟨w.heap.size,0,Av t,56,true⟩,⟨w.heap.size + 1,0,AW BO none 0,53,true⟩] [BH w0 b ns,Bj b w,Gh n0 i0 [[97]]] []:=(g.put 2 (by simp) s0 k0).pk [0,1] [0,1,2]
    refine Ae Gu GN j0 [] fun p0 v=>?_
    refine AU [(0,BY b),(4,BY (w.heap.size)),(6,BY (w.heap.size + 1)),(7,.slice n0 [[97]].length i0),(84,.bool (decide (0 < ([[97]].length:Int))))] fun x0=>?_
    refine Fo (l:=[[97]]) i hw h5 (fun nm hm=>?_) (fun s=>?_) (by decide) (fun _ _ h=>h) v
    ·rw [e2]
     show nm∈cond (decide (2 < n)) [[114,50]] []++cond (decide (4 < n)) [[97]] []
     rw [c2,c3]; exact hm
    ·rw [e2] at s
     cases s
   ·skip
    refine Ae Gu GN y [] fun p0 v=>?_
    refine AU [(0,BY b),(4,BY (w.heap.size)),(6,BY (w.heap.size + 1)),(7,.slice none ([]:List (List UInt8)).length 0),(84,.bool (decide (0 < (([]:List (List UInt8)).length:Int))))] fun x0=>?_
    refine Fo (l:=([]:List (List UInt8))) i hw h5 (fun nm hm=>?_) (fun s=>?_) (by decide) (fun _ _ h=>h) v
    ·rw [e2]
     show nm∈cond (decide (2 < n)) [[114,50]] []++cond (decide (4 < n)) [[97]] []
     rw [c2,c3]; exact hm
    ·rw [e2] at s
     cases s
 refine AB Tu K8 [] fun w5 K5=>?_
 refine AQ K5 (args:=[]) (Hw _) fun w6 K6=>?_
 refine Ae EO gG K6 [] fun w7 K7=>?_
 refine C4 (Cy (k:=.eql) (T:=56) (a:=.agg ⟨Av t⟩) (b:=.agg ⟨Av ED⟩) (D5 _ _ _ _ _ _ _ _ _)) ?_
 refine AB O4 K7 [] fun w8 K8=>?_
 refine AG (Gp t ED) (fun ch=>?_) (fun ch=>?_)
 ·have e3:=IB ch
  refine CA BS Tt [⟨w.heap.size,0,Av t,56,true⟩,⟨w.heap.size + 1,0,AW BO none 0,53,true⟩,⟨w8.heap.size,0,[By [104]],9,true⟩] K8 [] fun w9 x=>?_
  refine Cg x.H (x.ix 2) (x.at 2 rfl) [104] (JC [104]) rfl (w8.heap.size) (x.ent 2 (by kernel_rfl)) (Br Tt) (by kernel_rfl) (.tmp 60) (.tmp 61) 65 (by kernel_rfl) (by kernel_rfl) (by kernel_rfl) (by decide) (by kernel_rfl) (by kernel_rfl) rfl rfl (by decide) fun A9 c9 a0 v0 b9=>?_
  have f:Wk w0 a0 [⟨w.heap.size,0,Av t,56,true⟩,⟨w.heap.size + 1,0,AW BO none 0,53,true⟩] [BH w0 b ns,Bj b w,Gh A9 c9 [[104]]] []:=(x.put 2 (by simp) b9 v0).pk [0,1] [0,1,2]
  refine AB gF f [] fun p j=>?_
  refine BE j i 0 rfl (args:=[BY b,AI 4]) (BM b ns 4 _ (j.tapeOk i 0 rfl) (by omega) (by omega)) BQ.ok fun e o hq d=>?_
  obtain ⟨m1,v1,rfl,_,_⟩:=hq
  refine ⟨_,rfl,?_⟩
  refine AB gE d [] fun z q=>?_
  refine AG ((m1:Int) == 3) (fun _=>?_) (fun _=>?_)
  ·skip
   refine Af gD [⟨w.heap.size,0,Av t,56,true⟩,⟨w.heap.size + 1,0,AW BO none 0,53,true⟩,⟨z.heap.size,0,[AI 20,AI 21],3,true⟩] q [] fun c0 m=>?_
   refine BE m i 0 rfl (args:=[BY b,.slice (IN z.heap.size) 2 2]) (In b ns z.heap.size [20,21] 2 c0 (m.tapeOk i 0 rfl) (Nat.ne_of_gt (q.tapeOk i 0 rfl).lt) (by decide) (by decide) (m.ent 2 (by kernel_rfl))) (fun e w' ⟨_,_,_,h1,h2⟩=>⟨h1,h2⟩) fun e b0 hq y=>?_
   obtain ⟨op,hop,rfl,_,_⟩:=hq
   refine ⟨_,rfl,?_⟩
   refine AB gC y [] fun r0 g=>?_
   refine BE g i 0 rfl (args:=[BY b,AI 3]) (BM b ns 3 _ (g.tapeOk i 0 rfl) (by omega) (by omega)) BQ.ok fun e q0 hq j0=>?_
   obtain ⟨z0,t1,rfl,_,_⟩:=hq
   refine ⟨_,rfl,?_⟩
   have g0:op=20∨op=21:=by simpa using hop
   refine Af ux [⟨w.heap.size,0,Av t,56,true⟩,⟨w.heap.size + 1,0,AW (.mk op 0 0 0 0 0 [116,105,109,101] (IntKind.i64.wrap (1 + (z0:Int))) 0 []) none 0,53,true⟩,⟨z.heap.size,0,[AI 20,AI 21],3,true⟩] j0 [(1,0)] fun p0 v=>?_
   refine AJ v (1,0) (.agg ⟨AW (.mk op 0 0 0 0 0 [116,105,109,101] (IntKind.i64.wrap (1 + (z0:Int))) 0 []) none 0⟩) (.leaf ?_ rfl (v.out i hw))
   rw [IntWalk.i64_in _ (by omega)]
   exact .past h t [116,105,109,101] op _ (.inr ⟨e3,rfl⟩) g0 (by omega) (by omega)
  refine Ae Gu GN q [] fun c0 m=>?_
  refine AU [(0,BY b),(4,BY (w.heap.size)),(6,BY (w.heap.size + 1)),(7,.slice A9 [[104]].length c9),(84,.bool (decide (0 < ([[104]].length:Int))))] fun i1=>?_
  refine Fo (l:=[[104]]) i hw h5 (fun nm hm=>?_) (fun s=>?_) (by decide) (fun _ _ h=>h) m
  ·rw [e3]
   show nm∈[[104]]
   exact hm
  ·rw [e3] at s
   cases s
 refine AB Tr K8 [] fun w5 K5=>?_
 refine AQ K5 (args:=[]) (GB _) fun w6 K6=>?_
 refine Ae EO f5 K6 [] fun w7 K7=>?_
 refine C4 (Cy (k:=.eql) (T:=56) (a:=.agg ⟨Av t⟩) (b:=.agg ⟨Av CJ⟩) (D5 _ _ _ _ _ _ _ _ _)) ?_
 refine AB O3 K7 [] fun w8 K8=>?_
 refine AG (Gp t CJ) (fun cr=>?_) (fun cr=>?_)
 ·have e4:=IB cr
  refine AB Tq K8 [] fun w9 x=>?_
  refine AG (decide (1 < n)) (fun c2=>?_) (fun c2=>?_)
  ·skip
   refine CA BS f2 [⟨w.heap.size,0,Av t,56,true⟩,⟨w.heap.size + 1,0,AW BO none 0,53,true⟩,⟨w9.heap.size,0,[By [114,49]],9,true⟩] x [] fun a0 f=>?_
   refine Cg f.H (f.ix 2) (f.at 2 rfl) [114,49] (JC [114,49]) rfl (w9.heap.size) (f.ent 2 (by kernel_rfl)) (Br f2) (by kernel_rfl) (.tmp 78) (.tmp 79) 65 (by kernel_rfl) (by kernel_rfl) (by kernel_rfl) (by decide) (by kernel_rfl) (by kernel_rfl) rfl rfl (by decide) fun e0 d0 p l0 t0=>?_
   have j:Wk w0 p [⟨w.heap.size,0,Av t,56,true⟩,⟨w.heap.size + 1,0,AW BO none 0,53,true⟩] [BH w0 b ns,Bj b w,Gh e0 d0 [[114,49]]] []:=(f.put 2 (by simp) t0 l0).pk [0,1] [0,1,2]
   refine Ae Gu GN j [] fun o d=>?_
   refine AU [(0,BY b),(4,BY (w.heap.size)),(6,BY (w.heap.size + 1)),(7,.slice e0 [[114,49]].length d0),(84,.bool (decide (0 < ([[114,49]].length:Int))))] fun m0=>?_
   refine Fo (l:=[[114,49]]) i hw h5 (fun nm hm=>?_) (fun s=>?_) (by decide) (fun _ _ h=>h) d
   ·rw [e4]
    show nm∈cond (decide (1 < n)) [[114,49]] []
    rw [c2]; exact hm
   ·rw [e4] at s
    cases s
  ·skip
   refine Ae Gu GN x [] fun o d=>?_
   refine AU [(0,BY b),(4,BY (w.heap.size)),(6,BY (w.heap.size + 1)),(7,.slice none ([]:List (List UInt8)).length 0),(84,.bool (decide (0 < (([]:List (List UInt8)).length:Int))))] fun m0=>?_
   refine Fo (l:=([]:List (List UInt8))) i hw h5 (fun nm hm=>?_) (fun s=>?_) (by decide) (fun _ _ h=>h) d
   ·rw [e4]
    show nm∈cond (decide (1 < n)) [[114,49]] []
    rw [c2]; exact hm
   ·rw [e4] at s
    cases s
 have e5:=tB h5 ct cm ch cr
 refine CA BS Tp [⟨w.heap.size,0,Av t,56,true⟩,⟨w.heap.size + 1,0,AW BO none 0,53,true⟩,⟨w8.heap.size,0,[By [103]],9,true⟩] K8 [] fun w9 x=>?_
 refine Cg x.H (x.ix 2) (x.at 2 rfl) [103] (JC [103]) rfl (w8.heap.size) (x.ent 2 (by kernel_rfl)) (Br Tp) (by kernel_rfl) (.tmp 9) (.tmp 10) 65 (by kernel_rfl) (by kernel_rfl) (by kernel_rfl) (by decide) (by kernel_rfl) (by kernel_rfl) rfl rfl (by decide) fun A9 c9 a0 v0 b9=>?_
 have f:Wk w0 a0 [⟨w.heap.size,0,Av t,56,true⟩,⟨w.heap.size + 1,0,AW BO none 0,53,true⟩] [BH w0 b ns,Bj b w,Gh A9 c9 [[103]]] []:=(x.put 2 (by simp) b9 v0).pk [0,1] [0,1,2]
 refine AB To f [] fun p j=>?_
 refine AG (decide (4 < n)) (fun c2=>?_) (fun c2=>?_)
 ·skip
  refine CA BS f0 [⟨w.heap.size,0,Av t,56,true⟩,⟨w.heap.size + 1,0,AW BO none 0,53,true⟩,⟨p.heap.size,0,[By [114,52]],9,true⟩] j [] fun o d=>?_
  refine Cg d.H (d.ix 2) (d.at 2 rfl) [114,52] (JC [114,52]) rfl (p.heap.size) (d.ent 2 (by kernel_rfl)) (Br f0) (by kernel_rfl) (.tmp 14) (.tmp 15) 65 (by kernel_rfl) (by kernel_rfl) (by kernel_rfl) (by decide) (by kernel_rfl) (by kernel_rfl) rfl rfl (by decide) fun l1 d1 z g1 r1=>?_
  have q:Wk w0 z [⟨w.heap.size,0,Av t,56,true⟩,⟨w.heap.size + 1,0,AW BO none 0,53,true⟩] [BH w0 b ns,Bj b w,Gh l1 d1 [[103],[114,52]]] []:=(d.put 2 (by simp) r1 g1).pk [0,1] [0,1,2]
  refine Ae Gu GN q [] fun c0 m=>?_
  refine AU [(0,BY b),(4,BY (w.heap.size)),(6,BY (w.heap.size + 1)),(7,.slice l1 [[103],[114,52]].length d1),(84,.bool (decide (0 < ([[103],[114,52]].length:Int))))] fun i1=>?_
  refine Fo (l:=[[103],[114,52]]) i hw h5 (fun nm hm=>?_) (fun s=>?_) (by decide) (fun _ _ h=>h) m
  ·rw [e5]
   show nm∈[103] :: cond (decide (4 < n)) [[114,52]] []
   rw [c2]; exact hm
  ·rw [e5] at s
   cases s
 ·skip
  refine Ae Gu GN j [] fun c0 m=>?_
  refine AU [(0,BY b),(4,BY (w.heap.size)),(6,BY (w.heap.size + 1)),(7,.slice A9 [[103]].length c9),(84,.bool (decide (0 < ([[103]].length:Int))))] fun i1=>?_
  refine Fo (l:=[[103]]) i hw h5 (fun nm hm=>?_) (fun s=>?_) (by decide) (fun _ _ h=>h) m
  ·rw [e5]
   show nm∈[103] :: cond (decide (4 < n)) [[114,52]] []
   rw [c2]; exact hm
  ·rw [e5] at s
   cases s
end
end Go.Proofs.YtkjbdagicjbjjaaGreat
namespace Go.Proofs.YtkjbdagicjbjjaaGreat
open Go.RowKit
set_option maxRecDepth 100000
set_option maxHeartbeats 1000000
theorem Eo.ex {lo hi v:Nat} {xs:List (Ex×List Value)} {u:World} (h:(Eo lo hi xs).P u) (hl:v≤lo):∀ p∈xs,Cz (fun g=>v≤g) u p.1 p.2:=fun p a=>Cz.keep (Nat.le_refl _) (fun g hg _=>⟨Nat.le_trans hl hg.1,rfl⟩) _ _ (h.2 p a)
theorem Wk.newer {w0 u w:World} {M:List Az} {X T:List Th} {b:Nat} {ns:List Int} (K:Wk w0 u M (BH w0 b ns :: Bj b w :: X) T) (f:w0.heap.size=b) {e:Az} (j:Nat) (c:M[j]?=some e):w.heap.size≤e.id:=by
 have hl:=(List.getElem?_eq_some_iff.1 c).1
 have hx:(M.map Th.ent++((BH w0 b ns :: Bj b w :: X)++T))[j]?=some (Th.ent e):=by rw [List.getElem?_append_left (by rw [List.length_map]; exact hl),List.getElem?_map,c]; rfl
 have d:=(K.H.lo j _ hx e.id rfl).1
 refine Nat.le_of_not_lt fun a=>?_
 by_cases hb:e.id=b
 ·exact K.H.apart j (K.ix 0) _ _ hx (K.at 0 rfl) (by unfold Wk.ix; omega) e.id rfl hb
 ·exact K.H.apart j (K.ix 1) _ _ hx (K.at 1 rfl) (by unfold Wk.ix; omega) e.id rfl ⟨by omega,a⟩
theorem OX {S:Nat→Prop} {u:World}:∀ {xs:List (Ex×List Value)},(∀ p∈xs,Cz S u p.1 p.2)→Eu S u (xs.map (·.1)) (xs.map (·.2))
 | [],_=>by unfold Eu; rfl
 | p :: xs,h=>by
  rw [List.map_cons,List.map_cons]
  unfold Eu
  exact ⟨_,_,rfl,h p (by simp),OX fun q a=>h q (by simp [a])⟩
theorem tX {S:Nat→Prop} {u:World} {x:Ex} {a:List Value} (h:Cz S u x a):a.length=10:=by
 obtain ⟨_,_,_,_,_,_,_,_,_,_,_,_,rfl⟩:=h.cells
 rfl
theorem KI.node {b:Nat} {ns:List Int} {n:Int} {h:Nat} {t:Ty} {w w':World} {g c:Nat} {x:Ex} {xs:List (Ex×List Value)} (hx:DK n h t x) (e:x.ks=xs.map (·.1)) (a:∀ p∈xs,Cz (fun g=>w.heap.size≤g) w' p.1 p.2) (hg:w.heap.size≤g) (he:Az.good w' ⟨g,0,(xs.map (·.2)).flatten,53,true⟩) (ho:BW b ns w'∧CE b w w'):KI b ns n h t w (.returned (.agg ⟨AW x (IN g) c⟩)) w':=
 ⟨x,_,_,rfl,hx,NS (by rw [e]; exact OX a) (RM hg (fun r hr=>by obtain ⟨p,d,rfl⟩:=List.mem_map.1 hr; exact tX (a p d)) he),ho⟩
def L7 (ks:List Ex):Ex:=.mk 0 0 0 0 0 0 [] 0 0 ks
theorem ng {S:Nat→Prop} {u:World} {ks:List Ex} {A:Option Addr} {c:Nat} {e:Ex} (h:Cz S u (L7 ks) (AW (L7 ks) A c)) (he:e.ks=ks):Cz S u e (AW e A c):=by
 unfold L7 Cz at h
 obtain ⟨A',c',rs,h1,h2,h3⟩:=h
 have h4:Value.slice A ks.length c=.slice A' ks.length c':=by
  have:=congrArg (fun l:List Value=>l[9]?) h1
  exact Option.some.inj this
 simp only [Value.slice.injEq,true_and] at h4
 obtain ⟨rfl,rfl⟩:=h4
 exact NS (by rw [he]; exact h2) h3
theorem IC {b:Nat} {ns:List Int} {n:Int} {h:Nat} {t:Ty} {w:World}:∀ e w',KI b ns n h t w e w'→BW b ns w'∧CE b w w':=fun _ _ ⟨_,_,_,_,_,_,a,h2⟩=>⟨a,h2⟩
theorem Dr {b:Nat} {ns:List Int} {n:Int} {h lo:Nat} {t:Ty} {u:World} (hl:lo≤u.heap.size) {e:Ending} {w':World} (a:KI b ns n h t u e w'):∃ v,e=.returned v∧BW b ns w'∧CE b u w'∧Bv lo n h t v w':=by
 obtain ⟨x,A,c,rfl,i,h2,f,d⟩:=a
 exact ⟨_,rfl,f,d,x,A,c,rfl,i,Cz.keep (Nat.le_refl _) (fun g hg _=>⟨Nat.le_trans hl hg,rfl⟩) _ _ h2⟩
theorem Yt {s:Ty} (h:s∈RH):s∈JJ:=by
 simp only [RH,JJ,List.mem_cons,List.not_mem_nil,or_false] at h ⊢
 rcases h with rfl | rfl | rfl | rfl <;> simp
theorem M9 {t:Ty} {f:FuncId} {u:World} {b:Nat} {ns:List Int} (c:BW b ns u) (h:Calls Tryz.prog f ([]:List Value).toArray u fun e w'=>e=.returned (.agg ⟨Av t⟩)∧Below u.heap.size u w'):Calls Tryz.prog f ([]:List Value).toArray u fun e w'=>∃ v,e=.returned v∧BW b ns w'∧CE b u w'∧v=.agg ⟨Av t⟩:=
 h.mono fun e w' ⟨he,a⟩=>⟨_,he,c.below a,.of_below a,rfl⟩
attribute [local irreducible] A8 BL AC AD AF Ao AY AL Aq Bb Cn BR GR Dx Cm BK At Fr
end Go.Proofs.YtkjbdagicjbjjaaGreat

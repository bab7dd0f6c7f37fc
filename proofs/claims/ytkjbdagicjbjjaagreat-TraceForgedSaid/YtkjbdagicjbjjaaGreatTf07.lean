/-
  Part 7 of a proof: contracts of functions.
-/
import Derived.Test.YtkjbdagicjbjjaaGreatTf06
set_option linter.all false
namespace Go.Proofs.YtkjbdagicjbjjaaGreat
noncomputable section
open Go.RowKit
set_option maxRecDepth 100000
mutual
def H8:Ex→Int→Bool
 | .mk op num den mu hu du name count mode kids,h=>cond (cond (cond (decide (h < 1)) true (!((kids.length:Int) == C6 op))) true (!(Cl op num den mu hu du name count mode))) false (Ge kids (h - 1))
def Ge:List Ex→Int→Bool
 | [],_=>true
 | e :: es,h=>cond (!(H8 e h)) false (Ge es h)
end
mutual
def DR:Ex→Prop
 | .mk _ _ _ _ _ _ name _ _ kids=>name.length≤4294967296∧kids.length≤4294967296∧IK kids
def IK:List Ex→Prop
 | []=>True
 | e :: es=>DR e∧IK es
end
theorem L4:∀ {es:List Ex} {i:Nat} {e:Ex},IK es→es[i]?=some e→DR e
 | [],_,_,_,h=>by simp at h
 | x :: es,0,e,h,hi=>by unfold IK at h; simp at hi; exact hi ▸ h.1
 | x :: es,i + 1,e,h,hi=>by unfold IK at h; exact L4 h.2 (by simpa using hi)
theorem L3 {S:Nat→Prop} {w:World}:∀ {es:List Ex} {ks:List (List Value)} {i:Nat} {e:Ex},Eu S w es ks→es[i]?=some e→∃ r,ks[i]?=some r∧Cz S w e r
 | [],_,_,_,_,h=>by simp at h
 | x :: es,ks,i,e,h,hi=>by
  unfold Eu at h
  obtain ⟨c,b,rfl,a,h2⟩:=h
  cases i with
  | zero=>simp at hi; subst hi; exact ⟨c,by simp,a⟩
  | succ i=>obtain ⟨r,hr,hx⟩:=L3 (i:=i) h2 (by simpa using hi); exact ⟨r,by simpa using hr,hx⟩
theorem Is:∀ {es:List Ex} {i:Nat} {e:Ex},es[i]?=some e→Ex.height e≤Ex.heights es
 | [],_,_,h=>by simp at h
 | x :: es,0,e,h=>by unfold Ex.heights; simp at h; subst h; omega
 | x :: es,i + 1,e,h=>by unfold Ex.heights; have:=Is (es:=es) (i:=i) (e:=e) (by simpa using h); omega
abbrev Ca:Nat→Prop:=fun _=>True
theorem Cz.below {w w':World} {e:Ex} {a:List Value} (h:Cz Ca w e a) (B:Below w.heap.size w w'):Cz Ca w' e a:=Cz.keep B.size (fun g _ hg=>⟨trivial,B.block g hg⟩) e a h
theorem Eu.below {w w':World} {es:List Ex} {ks:List (List Value)} (h:Eu Ca w es ks) (B:Below w.heap.size w w'):Eu Ca w' es ks:=Eu.keep B.size (fun g _ hg=>⟨trivial,B.block g hg⟩) es ks h
theorem DI.below {w w':World} {n:Nat} {A:Option Addr} {rs:List (List Value)} (h:DI Ca w n A rs) (B:Below w.heap.size w w'):DI Ca w' n A rs:=DI.keep h B.size fun g _ hg=>⟨trivial,B.block g hg⟩
abbrev Nu (op num den mu hu du:Int) (nm:List UInt8) (cnt md:Int) (A:Option Addr) (n c:Nat):List Value:=[AI op,AI num,AI den,AI mu,AI hu,AI du,By nm,AI cnt,AI md,.slice A n c]
noncomputable def QF:Code:=Tryz.f124.body.getD .skip
def bL:=Ai 1 [.code QF]
def lr:=AA 60 (AL bL)
def bK:=AA 60 (AF lr)
def Ur:=AA 60 (Ao bK)
def lq:=AA (Ak Aa 90 (AD Ur)) (AD Ur)
def lp:=AA 60 (AC (AC lq))
def wD:=AA 60 (AC lp)
def RC (n:Nat):Prop:=∀ (e:Ex) (cs:List Value) (h:Int) (w:World),e.height≤n→DR e→Cz Ca w e cs→-1000000≤h→h≤1000000→Calls Tryz.prog 124 ([.agg ⟨cs⟩,AI h]:List Value).toArray w fun en w'=>en=.returned (.bool (H8 e h))∧Below w.heap.size w w'
theorem eV {a:List Ex} {h:Int}:∀ (i:Nat) (e:Ex),a[i]?=some e→Ge (a.drop i) h=cond (!(H8 e h)) false (Ge (a.drop (i + 1)) h):=fun i e hi=>by
 have hl:i < a.length:=(List.getElem?_eq_some_iff.1 hi).1
 have he:a[i]=e:=(List.getElem?_eq_some_iff.1 hi).2
 rw [← List.getElem_cons_drop hl,Ge,he]
theorem ld (n:Nat) (IH:RC n):RC (n + 1):=by
 rintro ⟨op,num,den,mu,hu,du,nm,cnt,md,a⟩ cs h w hh ht hx h0 h1
 unfold Cz at hx
 obtain ⟨A,c,ks,rfl,g0,b⟩:=hx
 unfold DR at ht
 obtain ⟨hs,hl,ht⟩:=ht
 have x0:Ex.heights a≤n:=by unfold Ex.height at hh; omega
 clear hh
 rw [show H8 (.mk op num den mu hu du nm cnt md a) h=cond (cond (cond (decide (h < 1)) true (!((a.length:Int) == C6 op))) true (!(Cl op num den mu hu du nm cnt md))) false (Ge a (h - 1)) by rw [H8]]
 refine Hs (args:=[.agg ⟨Nu op num den mu hu du nm cnt md A a.length c⟩,AI h]) (fn:=Tryz.f124) (c:=QF) (n:=36) ?_
 refine CY (JV 1 90 [.code QF]) [.code QF] w.heap.size [] [] bL [(1,AI h),(2,BY (w.heap.size))] (w.heap.size + 1) [⟨w.heap.size,0,Nu op num den mu hu du nm cnt md A a.length c,53,true⟩] (CH w) fun w1 E1 j0 r0=>?_
 have B1:Below w.heap.size w w1:=CO r0
 have G1:=j0.sat.good
 refine Hv ((FD bL).getD #[]) ⟨[⟨w.heap.size,0,Nu op num den mu hu du nm cnt md A a.length c,53,true⟩],[(4,0,9),(7,0,0),(12,0,0)],[⟨8,[(14,AI op)],AI (C6 op),(!(decide (h < 1))) && true⟩,⟨13,[(19,.agg ⟨Nu op num den mu hu du nm cnt md A a.length c⟩)],.bool (Cl op num den mu hu du nm cnt md),(!(cond (decide (h < 1)) true (!((a.length:Int) == C6 op)))) && true⟩]⟩ [(1,AI h),(2,BY (w.heap.size)),(22,.bool (cond (cond (decide (h < 1)) true (!((a.length:Int) == C6 op))) true (!(Cl op num den mu hu du nm cnt md))))] (by kernel_rfl) (by kernel_rfl) (by kernel_rfl) G1 (fun sp z=>?_) (fun X=>by kernel_rfl) (by kernel_rfl) fun y E2 b2=>?_
 ·simp only [List.mem_cons,List.not_mem_nil,or_false] at z
  rcases z with rfl | rfl
  ·exact AV 148 [.tmp 14] [AI op] (fun _=>by kernel_rfl) fun _ u v=>AN v (nS op u)
  ·exact AV 149 [.tmp 19] [.agg ⟨Nu op num den mu hu du nm cnt md A a.length c⟩] (fun _=>by kernel_rfl) fun _ u v=>AN v (Og op num den mu hu du nm cnt md A a.length c u hs)
 have B2:=B1.trans (b2.mono B1.size)
 have G2:=CB G1 b2
 have d:cond (cond (decide (h < 1)) true (!((a.length:Int) == C6 op))) true (!(Cl op num den mu hu du nm cnt md))=false→1≤h:=fun v=>by
  by_cases hb:h < 1
  ·rw [decide_eq_true hb] at v; exact nomatch v
  ·omega
 generalize cond (cond (decide (h < 1)) true (!((a.length:Int) == C6 op))) true (!(Cl op num den mu hu du nm cnt md))=bad at d ⊢
 refine CY 60 (AL bL) y.heap.size [] [] lr [(1,AI h),(2,BY (w.heap.size)),(22,.bool bad)] y.heap.size [] (CH y) fun w3 E3 f1 q0=>?_
 have b3:Below y.heap.size y w3:=CO q0
 have B3:=B2.trans (b3.mono B2.size)
 have G3:=CB G2 b3
 cases bad with
 | true=>
  refine Dc true (fun _=>?_) (fun h=>nomatch h)
  exact El (fn:=Tryz.f124) 60 (.bool false) fun wz Bz=>⟨rfl,B3.trans (Bz.mono B3.size)⟩
 | false=>
 rw [show cond false false (Ge a (h - 1))=Ge a (h - 1) from rfl]
 have d:=d rfl
 refine Dc false (fun h=>nomatch h) fun _=>?_
 refine CY 60 (AF lr) w3.heap.size [⟨w.heap.size,0,Nu op num den mu hu du nm cnt md A a.length c,53,true⟩] [(0,9)] bK [(1,AI h),(24,.slice A a.length c),(25,AI (a.length:Nat)),(26,AI ((0:Nat):Int))] w3.heap.size [⟨w.heap.size,0,Nu op num den mu hu du nm cnt md A a.length c,53,true⟩] (NO w3 _ G3 (by simp)) fun w4 E4 e1 p0=>?_
 have B4:Below w.heap.size w w4:=B3.trans (p0.below B3.size (fun k hk=>by rw [List.mem_singleton.1 hk]; exact Nat.le_refl _))
 refine Bd (by kernel_rfl) (fun E x=>∃ (i:Nat) (E0:Nat→Value),i≤a.length∧E=BC E0 [(1,AI h),(24,.slice A a.length c),(25,AI (a.length:Nat)),(26,AI (i:Nat))]∧Ge a (h - 1)=Ge (a.drop i) (h - 1)∧Below w.heap.size w x)
  (fun E _=>a.length - AK (E 26)) ⟨0,E4,Nat.zero_le _,rfl,rfl,B4⟩ ?_
 rintro E x ⟨i,E0,hi,rfl,hv,Bx⟩ l
 refine CY 60 (Ao bK) x.heap.size [] [] Ur [(1,AI h),(24,.slice A a.length c),(25,AI (a.length:Nat)),(26,AI (i:Nat)),(27,.bool (decide ((i:Int) < (a.length:Int))))] x.heap.size [] (CH x) fun t E5 d1 n0=>?_
 have B5:=Bx.trans ((CO n0).mono Bx.size)
 refine Dc (decide ((i:Int) < (a.length:Int))) (fun p=>?_) (fun p=>?_)
 ·have f:i < a.length:=by have:=of_decide_eq_true p; omega
  obtain ⟨e,he⟩:∃ e,a[i]?=some e:=⟨_,List.getElem?_eq_getElem f⟩
  rw [eV i e he] at hv
  obtain ⟨r,hr,o⟩:=L3 g0 he
  rcases b with b | ⟨g,off,rfl,_,hg,q⟩
  ·rw [b] at hr; simp at hr
  have m:=q i r hr
  have c0:r.length=10:=by
   obtain ⟨_,_,_,_,_,_,_,_,_,_,_,_,rfl⟩:=o.cells
   rfl
  have w0:t.rangeAt g (off + i * 10) r:=fun j u hu=>(World.cell?_of_block (B5.block g hg)).trans (m j u hu)
  refine CY (Ak Aa 90 (AD Ur)) (AD Ur) t.heap.size [] [] lq [(1,AI h),(24,.slice (some ⟨g,off,none⟩) a.length c),(25,AI (a.length:Nat)),(26,AI (i:Nat))] t.heap.size [] (CH t) fun s E6 c1 m0=>?_
  have b6:Below t.heap.size t s:=CO m0
  have B6:=B5.trans (b6.mono B5.size)
  have e0:s.rangeAt g (off + i * 10) r:=fun j u hu=>(World.cell?_of_block (B6.block g hg)).trans (m j u hu)
  refine Au (g:=g) (off:=off) (cap:=c) (sz:=10) (k:=i) (len:=a.length) (some 28) f Tryz.underlying51 ?_
  refine BI 53 g (off + i * 10) r (some 29) (h2:=by rw [c0]; kernel_rfl) e0 ?_
  have d0:IntKind.i64.wrap (h - 1)=h - 1:=IntWalk.i64_in _ (by omega)
  obtain ⟨a0,a1,a2,a3,a4,a5,a6,a7,a8,A9,n9,c9,rfl⟩:=o.cells
  refine CY 60 (AC (AC lq)) s.heap.size [] [(0,0),(0,0)] lp [(1,AI h),(24,.slice (some ⟨g,off,none⟩) a.length c),(25,AI (a.length:Nat)),(26,AI (i:Nat)),(30,.agg ⟨Nu a0 a1 a2 a3 a4 a5 a6 a7 a8 A9 n9 c9⟩),(32,AI (IntKind.i64.wrap (h - 1)))] (s.heap.size + 1) [⟨s.heap.size,0,Nu a0 a1 a2 a3 a4 a5 a6 a7 a8 A9 n9 c9,53,true⟩] (CH s) fun w7 E7 b1 l0=>?_
  have B7:=B6.trans ((CO l0).mono B6.size)
  rw [d0]
  refine LR 124 [.tmp 30,.tmp 32] (some 33) [.agg ⟨Nu a0 a1 a2 a3 a4 a5 a6 a7 a8 A9 n9 c9⟩,AI (h - 1)] (by kernel_rfl) (by kernel_rfl) (by kernel_rfl) ((IH e _ (h - 1) w7 (by have:=Is he; omega) (L4 ht he) (o.below B7) (by omega) (by omega)).mono fun en w8 hh=>?_)
  obtain ⟨rfl,b8⟩:=hh
  refine ⟨_,rfl,?_⟩
  have B8:=B7.trans (b8.mono B7.size)
  generalize H8 e (h - 1)=be at *
  refine CY 60 (AC lp) w8.heap.size [] [] wD [(1,AI h),(24,.slice (some ⟨g,off,none⟩) a.length c),(25,AI (a.length:Nat)),(26,AI (i:Nat)),(34,.bool (!be))] w8.heap.size [] (CH w8) fun w9 E9 z0 k0=>?_
  have B9:=B8.trans ((CO k0).mono B8.size)
  cases be with
  | false=>
   rw [hv]
   refine Dc true (fun _=>?_) (fun h=>nomatch h)
   exact El (fn:=Tryz.f124) 60 (.bool false) fun wz Bz=>⟨rfl,B9.trans (Bz.mono B9.size)⟩
  | true=>
   refine Dc false (fun h=>nomatch h) fun _=>?_
   refine CY 60 (AF wD) w9.heap.size [] [] (AY bK) [(1,AI h),(24,.slice (some ⟨g,off,none⟩) a.length c),(25,AI (a.length:Nat)),(26,AI (IntKind.i64.wrap ((i:Int) + 1)))] w9.heap.size [] (CH w9) fun v0 s0 t0 b0=>?_
   rw [Bc i (by omega)]
   refine l _ _ ⟨i + 1,s0,f,rfl,hv,B9.trans ((CO b0).mono B9.size)⟩ ?_
   show a.length - AK (AI ((i + 1:Nat):Int)) < a.length - AK (AI (i:Int))
   simp only [AK]
   omega
 ·have i0:i=a.length:=by have:=of_decide_eq_false p; omega
  rw [hv,i0,List.drop_length,Ge]
  exact El (fn:=Tryz.f124) 60 (.bool true) fun wz Bz=>⟨rfl,B5.trans (Bz.mono B5.size)⟩
theorem XH:∀ n,RC n
 | 0=>fun e b h w a=>absurd a (by cases e; unfold Ex.height; omega)
 | n + 1=>ld n (XH n)
end
end Go.Proofs.YtkjbdagicjbjjaaGreat
namespace Go.Proofs.YtkjbdagicjbjjaaGreat
noncomputable section
open Go.RowKit
set_option maxRecDepth 100000
def Ik:List (Int×Int×Int)→Int→Bool
 | [],_=>true
 | e :: es,b=>cond (cond (cond (decide (e.1≤b)) true (decide (1000000 < e.1))) true (!(D6 e.2.1 e.2.2))) false (Ik es e.1)
def Di (es:List (Int×Int×Int)):Bool:=cond (cond (decide ((es.length:Int) < 1)) true (decide (64 < (es.length:Int)))) false (Ik es (-1))
theorem eX {es:List (Int×Int×Int)} {b:Int} (i:Nat) (e:Int×Int×Int) (hi:es[i]?=some e):Ik (es.drop i) b=cond (cond (cond (decide (e.1≤b)) true (decide (1000000 < e.1))) true (!(D6 e.2.1 e.2.2))) false (Ik (es.drop (i + 1)) e.1):=by
 have hl:i < es.length:=(List.getElem?_eq_some_iff.1 hi).1
 have he:es[i]=e:=(List.getElem?_eq_some_iff.1 hi).2
 rw [← List.getElem_cons_drop hl,Ik,he]
noncomputable def QE:Code:=Tryz.f107.body.getD .skip
def bB:=Ai 1 [.code QE]
def ll:=AA 60 (AL bB)
def bE:=AA 60 (AF ll)
def Uq:=AA 60 (Ao bE)
def bD:=AA (Ak Aa 90 (AD Uq)) (AD Uq)
def bC:=Ai 7 (AC (AC bD))
def vu:=AA 60 (AL bC)
theorem N0 (es:List (Int×Int×Int)) (A:Option Addr) (c:Nat) (w:World) (a:DI Ca w 3 A (es.map KA)):Calls Tryz.prog 107 ([.slice A es.length c]:List Value).toArray w fun e w'=>e=.returned (.bool (Di es))∧Below w.heap.size w w':=by
 refine Hs (args:=[.slice A es.length c]) (fn:=Tryz.f107) (c:=QE) (n:=38) ?_
 refine CY (JV 1 90 [.code QE]) [.code QE] w.heap.size [] [] bB [(0,.slice A es.length c)] w.heap.size [] (CH w) fun w0 E0 v0 k0=>?_
 have B0:Below w.heap.size w w0:=CO k0
 refine Hv ((FD bB).getD #[]) ⟨[],[],[]⟩ [(0,.slice A es.length c),(13,.bool (cond (decide ((es.length:Int) < 1)) true (decide (64 < (es.length:Int)))))] (by kernel_rfl) (by kernel_rfl) (by kernel_rfl) (fun e he=>by cases he) (fun sp p=>by cases p) (fun X=>by kernel_rfl) (by kernel_rfl) fun wa Ea ba=>?_
 have Ba:=B0.trans (ba.mono B0.size)
 refine CY 60 (AL bB) wa.heap.size [] [] ll [(0,.slice A es.length c),(13,.bool (cond (decide ((es.length:Int) < 1)) true (decide (64 < (es.length:Int)))))] wa.heap.size [] (CH wa) fun w1 E1 t0 j0=>?_
 have B1:Below w.heap.size w w1:=Ba.trans ((CO j0).mono Ba.size)
 unfold Di
 have m:cond (decide ((es.length:Int) < 1)) true (decide (64 < (es.length:Int)))=false→es.length≤64:=fun t=>by
  by_cases hb:64 < (es.length:Int)
  ·by_cases hc:(es.length:Int) < 1
   ·omega
   ·rw [decide_eq_true hb,decide_eq_false hc] at t; exact nomatch t
  ·omega
 generalize cond (decide ((es.length:Int) < 1)) true (decide (64 < (es.length:Int)))=bad at m ⊢
 cases bad with
 | true=>
  refine Dc true (fun _=>?_) (fun h=>nomatch h)
  exact El (fn:=Tryz.f107) 60 (.bool false) fun wz Bz=>⟨rfl,B1.trans (Bz.mono B1.size)⟩
 | false=>
 have m:=m rfl
 rw [show cond false false (Ik es (-1))=Ik es (-1) from rfl]
 refine Dc false (fun h=>nomatch h) fun _=>?_
 refine CY 60 (AF ll) w1.heap.size [] [] bE [(3,AI (-1)),(14,.slice A es.length c),(15,AI (es.length:Nat)),(16,AI ((0:Nat):Int))] w1.heap.size [] (CH w1) fun w4 E4 s0 i0=>?_
 have B4:Below w.heap.size w w4:=B1.trans ((CO i0).mono B1.size)
 refine Bd (by kernel_rfl) (fun E v=>∃ (i:Nat) (b:Int) (E0:Nat→Value),i≤es.length∧E=BC E0 [(3,AI b),(14,.slice A es.length c),(15,AI (es.length:Nat)),(16,AI (i:Nat))]∧Ik es (-1)=Ik (es.drop i) b∧Below w.heap.size w v)
  (fun E _=>es.length - AK (E 16)) ⟨0,-1,E4,Nat.zero_le _,rfl,rfl,B4⟩ ?_
 rintro E v ⟨i,b,E0,hi,rfl,hv,Bx⟩ o
 refine CY 60 (Ao bE) v.heap.size [] [] Uq [(3,AI b),(14,.slice A es.length c),(15,AI (es.length:Nat)),(16,AI (i:Nat)),(17,.bool (decide ((i:Int) < (es.length:Int))))] v.heap.size [] (CH v) fun w5 E5 r0 h0=>?_
 have B5:=Bx.trans ((CO h0).mono Bx.size)
 refine Dc (decide ((i:Int) < (es.length:Int))) (fun r=>?_) (fun r=>?_)
 ·have l:i < es.length:=by have:=of_decide_eq_true r; omega
  obtain ⟨⟨k,n,d⟩,he⟩:∃ e,es[i]?=some e:=⟨_,List.getElem?_eq_getElem l⟩
  rw [eX i _ he] at hv
  have hr:(es.map KA)[i]?=some [AI k,AI n,AI d]:=by rw [List.getElem?_map,he]; rfl
  rcases a with a | ⟨g,off,rfl,_,hg,s⟩
  ·rw [a] at hr; simp at hr
  have y:=s i _ hr
  refine CY (Ak Aa 90 (AD Uq)) (AD Uq) w5.heap.size [] [] bD [(3,AI b),(14,.slice (some ⟨g,off,none⟩) es.length c),(15,AI (es.length:Nat)),(16,AI (i:Nat))] w5.heap.size [] (CH w5) fun f E6 q0 g0=>?_
  have B6:=B5.trans ((CO g0).mono B5.size)
  have a0:f.rangeAt g (off + i * 3) [AI k,AI n,AI d]:=fun j u hu=>(World.cell?_of_block (B6.block g hg)).trans (y j u hu)
  refine Au (g:=g) (off:=off) (cap:=c) (sz:=3) (k:=i) (len:=es.length) (some 18) l Tryz.underlying57 ?_
  refine BI 101 g (off + i * 3) [AI k,AI n,AI d] (some 19) a0 ?_
  refine CY (JV 7 90 (AC (AC bD))) (AC (AC bD)) f.heap.size [] [(0,0)] bC [(3,AI b),(5,BY (f.heap.size)),(14,.slice (some ⟨g,off,none⟩) es.length c),(15,AI (es.length:Nat)),(16,AI (i:Nat))] (f.heap.size + 1) [⟨f.heap.size,0,[AI k,AI n,AI d],101,true⟩] (CH f) fun w7 E7 c0 e0=>?_
  have B7:=B6.trans ((CO e0).mono B6.size)
  have G7:=c0.sat.good
  refine Hv ((FD bC).getD #[]) ⟨[⟨f.heap.size,0,[AI k,AI n,AI d],101,true⟩],[(1,0,0),(6,0,0),(11,0,1)],[⟨12,[(31,.agg ⟨[AI n,AI d]⟩)],.bool (D6 n d),(!(cond (decide (k≤b)) true (decide (1000000 < k)))) && true⟩]⟩ [(5,BY (f.heap.size)),(14,.slice (some ⟨g,off,none⟩) es.length c),(15,AI (es.length:Nat)),(16,AI (i:Nat)),(34,.bool (cond (cond (decide (k≤b)) true (decide (1000000 < k))) true (!(D6 n d))))] (by kernel_rfl) (by kernel_rfl) (by kernel_rfl) G7 (fun sp p=>?_) (fun X=>by kernel_rfl) (by kernel_rfl) fun x E8 b8=>?_
  ·rw [List.mem_singleton.1 p]
   exact AV 123 [.tmp 31] [.agg ⟨[AI n,AI d]⟩] (fun _=>by kernel_rfl) fun _ u t=>AN t (Ju n d u)
  have B8:=B7.trans (b8.mono B7.size)
  have G8:=CB G7 b8
  generalize cond (cond (decide (k≤b)) true (decide (1000000 < k))) true (!(D6 n d))=bad at hv ⊢
  refine CY 60 (AL bC) x.heap.size [] [] vu [(5,BY (f.heap.size)),(14,.slice (some ⟨g,off,none⟩) es.length c),(15,AI (es.length:Nat)),(16,AI (i:Nat)),(34,.bool bad)] x.heap.size [] (CH x) fun w9 E9 p0 d0=>?_
  have b9:Below x.heap.size x w9:=CO d0
  have B9:=B8.trans (b9.mono B8.size)
  have G9:=CB G8 b9
  cases bad with
  | true=>
   rw [hv]
   refine Dc true (fun _=>?_) (fun h=>nomatch h)
   exact El (fn:=Tryz.f107) 60 (.bool false) fun wz Bz=>⟨rfl,B9.trans (Bz.mono B9.size)⟩
  | false=>
   refine Dc false (fun h=>nomatch h) fun _=>?_
   refine CY 60 (AF vu) w9.heap.size [⟨f.heap.size,0,[AI k,AI n,AI d],101,true⟩] [(0,0)] (AY bE) [(3,AI k),(14,.slice (some ⟨g,off,none⟩) es.length c),(15,AI (es.length:Nat)),(16,AI (IntKind.i64.wrap ((i:Int) + 1)))] w9.heap.size [⟨f.heap.size,0,[AI k,AI n,AI d],101,true⟩] (NO w9 _ G9 (by simp)) fun n0 l0 m0 z=>?_
   rw [Bc i (by omega)]
   refine o _ _ ⟨i + 1,k,l0,l,rfl,hv,z.below B9.size (fun q t=>by rw [List.mem_singleton.1 t]; exact B6.size) |> B9.trans⟩ ?_
   show es.length - AK (AI ((i + 1:Nat):Int)) < es.length - AK (AI (i:Int))
   simp only [AK]
   omega
 ·have b0:i=es.length:=by have:=of_decide_eq_false r; omega
  rw [hv,b0,List.drop_length,Ik]
  exact El (fn:=Tryz.f107) 60 (.bool true) fun wz Bz=>⟨rfl,B5.trans (Bz.mono B5.size)⟩
end
end Go.Proofs.YtkjbdagicjbjjaaGreat
namespace Go.Proofs.YtkjbdagicjbjjaaGreat
noncomputable section
open Go.RowKit
set_option maxRecDepth 100000
set_option maxHeartbeats 1000000
attribute [local irreducible] A8 BL AC AD AF Ao AY AL Aq Bb Cn BK At Fr
theorem Na (es:List (Int×Int×Int)) (A:Option Addr) (n c:Nat) (w:World) (hn:n=es.length) (a:DI Ca w 3 A (es.map KA)):Calls Tryz.prog 107 ([.slice A n c]:List Value).toArray w fun e w'=>e=.returned (.bool (Di es))∧Below w.heap.size w w':=by
 subst hn
 exact N0 es A c w a
def Dy (x:Ex):Bool:=H8 x 32
noncomputable def kQ:Code:=Tryz.f108.body.getD .skip
def vp:=AA 60 ([.code kQ])
def ACQ:=AA 60 (AC vp)
theorem JB (x:Ex) (o j i h g f:Int) (m:List UInt8) (l k:Int) (d:Option Addr) (a b:Nat) (w:World) (ht:DR x) (hx:Cz Ca w x [AI o,AI j,AI i,AI h,AI g,AI f,By m,AI l,AI k,.slice d a b]):Calls Tryz.prog 108 ([.agg ⟨[AI o,AI j,AI i,AI h,AI g,AI f,By m,AI l,AI k,.slice d a b]⟩]:List Value).toArray w fun e w'=>e=.returned (.bool (Dy x))∧Below w.heap.size w w':=by
 refine AR (fn:=Tryz.f108) (c:=kQ) (n:=5) ?_
 have t:=Wk.start w
 refine Aj vp t [(0,0)] fun q p=>?_
 refine AQ p (args:=[.agg ⟨[AI o,AI j,AI i,AI h,AI g,AI f,By m,AI l,AI k,.slice d a b]⟩,AI 32]) (XH _ x _ 32 q (Nat.le_refl _) ht (hx.below p.B) (by decide) (by decide)) fun v s=>?_
 refine AB ACQ s [] fun u r=>?_
 exact AP r (0,0) (.bool (H8 x 32)) (by unfold Dy; rfl)
def Dd (x:Ex) (es:List (Int×Int×Int)) (p0a:Int) (p0ca:Bool) (p0cba:Int) (p0cbb:Int) (p0cbc:Int) (p0d:Int) (p0en:Nat) (p0fa:Int) (p0fba:Int) (p0fbb:Int) (p0fca:Int) (p0fcb:Int) (p0fcc:Int) (p0fd:List UInt8) (p0fe:Int) (p0ff:Int) (p0fgn:Nat) (p0g:Int) (p0ha:Int) (p0hb:Int):Bool:=cond (p0a == 1) (cond (cond (cond (cond (cond (DM p0ca p0cba p0cbb p0cbc) (p0d == 0) (false)) ((p0en:Int) == 0) (false)) (GX p0fa p0fba p0fbb p0fca p0fcb p0fcc p0fd p0fe p0ff p0fgn) (false)) (p0g == 0) (false)) ((p0ha == 0) && (p0hb == 0)) (false)) (cond (p0a == 5) (cond (cond (cond (cond (cond (cond (DM p0ca p0cba p0cbb p0cbc) (!(p0ca)) (false)) (p0d == 0) (false)) ((p0en:Int) == 0) (false)) (GX p0fa p0fba p0fbb p0fca p0fcb p0fcc p0fd p0fe p0ff p0fgn) (false)) (p0g == 0) (false)) ((p0ha == 0) && (p0hb == 0)) (false)) (cond (p0a == 2) (cond (cond (cond (cond (cond (cond (DM p0ca p0cba p0cbb p0cbc) (!(p0ca)) (false)) (F3 p0d) (false)) (Di es) (false)) (GX p0fa p0fba p0fbb p0fca p0fcb p0fcc p0fd p0fe p0ff p0fgn) (false)) (p0g == 0) (false)) ((p0ha == 0) && (p0hb == 0)) (false)) (cond (p0a == 3) (cond (cond (cond (cond (cond (DM p0ca p0cba p0cbb p0cbc) (F3 p0d) (false)) ((p0en:Int) == 0) (false)) (Dy x) (false)) (p0g == 0) (false)) ((p0ha == 0) && (p0hb == 0)) (false)) (cond (p0a == 4) (cond (cond (cond (cond (cond ((p0ca == false) && ((p0cba == 0) && ((p0cbb == 0) && (p0cbc == 0)))) (F3 p0d) (false)) ((p0en:Int) == 0) (false)) (Dy x) (false)) (Hy p0g) (false)) (cond (HH p0ha p0hb) (Jv p0hb) (false)) (false)) (false)))))
noncomputable def kU:Code:=Tryz.f71.body.getD .skip
def wK:=Ai 1 ([.code kU])
def wJ:=Ai 2 (AL wK)
def wI:=Ai 3 (AL wJ)
def lv:=AA 60 (AL wI)
def wH:=AA 60 (AD lv)
def wG:=Ai 19 (AC wH)
def ACV:=AA 60 (AL wG)
def lu:=AA 60 (AF lv)
def wF:=Ai 9 (AD lu)
def wE:=Ai 19 (AL wF)
def ABM:=AA 60 (AL wE)
def bO:=AA 60 (AF lu)
def rW:=Ai 11 (AD bO)
def rV:=Ai 12 (AL rW)
def rU:=Ai 19 (AL rV)
def ABL:=AA 60 (AL rU)
def bN:=AA 60 (AF bO)
def rT:=AA 60 (AD bN)
def rS:=Ai 15 (AC rT)
def rR:=Ai 19 (AL rS)
def ABK:=AA 60 (AL rR)
def bM:=AA 60 (AF bN)
def rQ:=Ai 17 (AD bM)
def rP:=Ai 18 (AL rQ)
def rO:=Ai 19 (AL rP)
def ABJ:=AA 60 (AL rO)
def ABI:=AA 60 (AF bM)
theorem MM (x:Ex) (es:List (Int×Int×Int)) (h0:Int) (s0:List UInt8) (h:Bool) (g f d c0:Int) (g0:Option Addr) (d0 i0:Nat) (z p o m l j:Int) (y:List UInt8) (v t:Int) (b0:Option Addr) (i a0:Nat) (e0 s q:Int) (w:World) (ht:DR x) (hx:Cz Ca w x [AI z,AI p,AI o,AI m,AI l,AI j,By y,AI v,AI t,.slice b0 i a0]) (hn:d0=es.length) (q0:DI Ca w 3 g0 (es.map KA)):Calls Tryz.prog 71 ([.agg ⟨[AI h0,By s0,.bool h,AI g,AI f,AI d,AI c0,.slice g0 d0 i0,AI z,AI p,AI o,AI m,AI l,AI j,By y,AI v,AI t,.slice b0 i a0,AI e0,AI s,AI q]⟩]:List Value).toArray w fun e w'=>e=.returned (.bool (Dd x es h0 h g f d c0 d0 z p o m l j y v t i e0 s q))∧Below w.heap.size w w':=by
 refine AR (fn:=Tryz.f71) (c:=kU) (n:=111) ?_
 have K1:=Wk.start w
 refine Bp 1 wK [⟨w.heap.size,0,[AI h0,By s0,.bool h,AI g,AI f,AI d,AI c0,.slice g0 d0 i0,AI z,AI p,AI o,AI m,AI l,AI j,By y,AI v,AI t,.slice b0 i a0,AI e0,AI s,AI q],59,true⟩] K1 [] fun w1 K2=>?_
 refine Ap K2 [(1,0,2)] [⟨3,[(10,.agg ⟨[.bool h,AI g,AI f,AI d]⟩),(11,.agg ⟨[.bool false,AI 0,AI 0,AI 0]⟩)],.bool ((h == false) && ((g == 0) && ((f == 0) && (d == 0)))),true⟩] K2.G (fun sp r=>?_) fun w2 E2 K3=>?_
 ·rw [List.mem_singleton.1 r]
  exact BG fun _ E u _=>Cy (k:=.eql) (T:=56) (a:=.agg ⟨[.bool h,AI g,AI f,AI d]⟩) (b:=.agg ⟨[.bool false,AI 0,AI 0,AI 0]⟩) (D5 u h g f d false 0 0 0)
 refine Am 2 wJ K3 [] fun w3 K4=>?_
 refine Ap K4 [(1,0,6),(4,0,7),(8,0,8),(11,0,18)] [⟨9,[(21,.agg ⟨[AI z,AI p,AI o,AI m,AI l,AI j,By y,AI v,AI t,.slice b0 i a0]⟩)],.bool (GX z p o m l j y v t i),true⟩] K4.G (fun sp r=>?_) fun w4 E4 K5=>?_
 ·rw [List.mem_singleton.1 r]
  exact AV 104 [.tmp 21] [.agg ⟨[AI z,AI p,AI o,AI m,AI l,AI j,By y,AI v,AI t,.slice b0 i a0]⟩] (fun _=>by kernel_rfl) fun hc u hu=>AN hu (dm z p o m l j y v t b0 i a0 u)
 refine Am 3 wI K5 [] fun w5 K6=>?_
 refine Ap K6 [(1,0,19)] [⟨3,[(27,.agg ⟨[AI s,AI q]⟩),(28,.agg ⟨[AI 0,AI 0]⟩)],.bool ((s == 0) && (q == 0)),true⟩] K6.G (fun sp r=>?_) fun w6 E6 K7=>?_
 ·rw [List.mem_singleton.1 r]
  exact BG fun _ E u _=>Cy (k:=.eql) (T:=41) (a:=.agg ⟨[AI s,AI q]⟩) (b:=.agg ⟨[AI 0,AI 0]⟩) (Ej u s q 0 0)
 refine AB lv K7 [(0,0)] fun w7 K8=>?_
 refine AG (h0 == 1) (fun c8=>?_) (fun c8=>?_)
 ·refine AB wH K8 [(0,2)] fun w9 K9=>?_
  refine AQ K9 (Hb h g f d w9) fun t3 e2=>?_
  refine Am 19 wG e2 [] fun r3 g1=>?_
  refine Ap g1 [] [] g1.G (fun sp r=>by cases r) fun q3 k4 d2=>?_
  refine AB ACV d2 [] fun p3 c2=>?_
  exact AP c2 (0,0) (.bool (cond (cond (cond (cond (cond (DM h g f d) (c0 == 0) (false)) ((d0:Int) == 0) (false)) (GX z p o m l j y v t i) (false)) (e0 == 0) (false)) ((s == 0) && (q == 0)) (false))) (by unfold Dd; rw [c8] <;> rfl)
 ·refine AB lu K8 [] fun o3 f1=>?_
  refine AG (h0 == 5) (fun j0=>?_) (fun j0=>?_)
  ·refine Am 9 wF f1 [] fun n3 e1=>?_
   refine Ap e1 [(1,0,2),(6,0,2)] [⟨2,[(40,.agg ⟨[.bool h,AI g,AI f,AI d]⟩)],.bool (DM h g f d),true⟩] e1.G (fun sp r=>?_) fun m3 h4 b2=>?_
   ·rw [List.mem_singleton.1 r]
    exact AV 105 [.tmp 40] [.agg ⟨[.bool h,AI g,AI f,AI d]⟩] (fun _=>by kernel_rfl) fun hc u hu=>AN hu (Hb h g f d u)
   refine Am 19 wE b2 [] fun l3 d1=>?_
   refine Ap d1 [] [] d1.G (fun sp r=>by cases r) fun k3 g4 a2=>?_
   refine AB ABM a2 [] fun i3 z1=>?_
   exact AP z1 (0,0) (.bool (cond (cond (cond (cond (cond (cond (DM h g f d) (!(h)) (false)) (c0 == 0) (false)) ((d0:Int) == 0) (false)) (GX z p o m l j y v t i) (false)) (e0 == 0) (false)) ((s == 0) && (q == 0)) (false))) (by unfold Dd; rw [c8,j0] <;> rfl)
  ·refine AB bO f1 [] fun h3 c1=>?_
   refine AG (h0 == 2) (fun k0=>?_) (fun k0=>?_)
   ·refine Am 11 rW c1 [] fun g3 b1=>?_
    refine Ap b1 [(1,0,2),(6,0,2)] [⟨2,[(51,.agg ⟨[.bool h,AI g,AI f,AI d]⟩)],.bool (DM h g f d),true⟩] b1.G (fun sp r=>?_) fun f3 f4 x1=>?_
    ·rw [List.mem_singleton.1 r]
     exact AV 105 [.tmp 51] [.agg ⟨[.bool h,AI g,AI f,AI d]⟩] (fun _=>by kernel_rfl) fun hc u hu=>AN hu (Hb h g f d u)
    refine Am 12 rV x1 [] fun e3 p0=>?_
    refine Ap p0 [(1,0,6),(4,0,7)] [⟨2,[(60,AI c0)],.bool (F3 c0),true⟩,⟨5,[(63,.slice g0 d0 i0)],.bool (Di es),true⟩] p0.G (fun sp r=>?_) fun c3 e4 v1=>?_
    ·simp only [List.mem_cons,List.not_mem_nil,or_false] at r
     rcases r with rfl | rfl
     ·exact AV 106 [.tmp 60] [AI c0] (fun _=>by kernel_rfl) fun hc u hu=>AN hu (Mi c0 u)
     ·exact AV 107 [.tmp 63] [.slice g0 d0 i0] (fun _=>by kernel_rfl) fun hc u hu=>AN hu (Na es _ _ _ u hn (q0.below (p0.B.trans (hu.mono p0.B.size))))
    refine Am 19 rU v1 [] fun b3 a1=>?_
    refine Ap a1 [] [] a1.G (fun sp r=>by cases r) fun a3 c4 u1=>?_
    refine AB ABL u1 [] fun z2 t1=>?_
    exact AP t1 (0,0) (.bool (cond (cond (cond (cond (cond (cond (DM h g f d) (!(h)) (false)) (F3 c0) (false)) (Di es) (false)) (GX z p o m l j y v t i) (false)) (e0 == 0) (false)) ((s == 0) && (q == 0)) (false))) (by unfold Dd; rw [c8,j0,k0] <;> rfl)
   ·refine AB bN c1 [] fun x2 z0=>?_
    refine AG (h0 == 3) (fun l0=>?_) (fun l0=>?_)
    ·refine AB rT z0 [(0,2)] fun h1 s1=>?_
     refine AQ s1 (Hb h g f d h1) fun v2 r1=>?_
     refine Am 15 rS r1 [] fun u2 n0=>?_
     refine Ap n0 [(1,0,6),(4,0,8)] [⟨2,[(71,AI c0)],.bool (F3 c0),true⟩,⟨5,[(74,.agg ⟨[AI z,AI p,AI o,AI m,AI l,AI j,By y,AI v,AI t,.slice b0 i a0]⟩)],.bool (Dy x),true⟩] n0.G (fun sp r=>?_) fun t2 b4 q1=>?_
     ·simp only [List.mem_cons,List.not_mem_nil,or_false] at r
      rcases r with rfl | rfl
      ·exact AV 106 [.tmp 71] [AI c0] (fun _=>by kernel_rfl) fun hc u hu=>AN hu (Mi c0 u)
      ·exact AV 108 [.tmp 74] [.agg ⟨[AI z,AI p,AI o,AI m,AI l,AI j,By y,AI v,AI t,.slice b0 i a0]⟩] (fun _=>by kernel_rfl) fun hc u hu=>AN hu (JB x z p o m l j y v t b0 i a0 u ht (hx.below (n0.B.trans (hu.mono n0.B.size))))
     refine Am 19 rR q1 [] fun s2 x0=>?_
     refine Ap x0 [] [] x0.G (fun sp r=>by cases r) fun r2 a4 p1=>?_
     refine AB ABK p1 [] fun q2 o1=>?_
     exact AP o1 (0,0) (.bool (cond (cond (cond (cond (cond (DM h g f d) (F3 c0) (false)) ((d0:Int) == 0) (false)) (Dy x) (false)) (e0 == 0) (false)) ((s == 0) && (q == 0)) (false))) (by unfold Dd; rw [c8,j0,k0,l0] <;> rfl)
    ·refine AB bM z0 [] fun p2 w0=>?_
     refine AG (h0 == 4) (fun r0=>?_) (fun r0=>?_)
     ·refine Am 17 rQ w0 [] fun o2 m0=>?_
      refine Ap m0 [(1,0,6),(4,0,8)] [⟨2,[(79,AI c0)],.bool (F3 c0),true⟩,⟨5,[(82,.agg ⟨[AI z,AI p,AI o,AI m,AI l,AI j,By y,AI v,AI t,.slice b0 i a0]⟩)],.bool (Dy x),true⟩] m0.G (fun sp r=>?_) fun n2 z3 n1=>?_
      ·simp only [List.mem_cons,List.not_mem_nil,or_false] at r
       rcases r with rfl | rfl
       ·exact AV 106 [.tmp 79] [AI c0] (fun _=>by kernel_rfl) fun hc u hu=>AN hu (Mi c0 u)
       ·exact AV 108 [.tmp 82] [.agg ⟨[AI z,AI p,AI o,AI m,AI l,AI j,By y,AI v,AI t,.slice b0 i a0]⟩] (fun _=>by kernel_rfl) fun hc u hu=>AN hu (JB x z p o m l j y v t b0 i a0 u ht (hx.below (m0.B.trans (hu.mono m0.B.size))))
      refine Am 18 rP n1 [] fun m2 v0=>?_
      refine Ap v0 [(1,0,18),(4,0,19),(8,0,19)] [⟨2,[(85,AI e0)],.bool (Hy e0),true⟩,⟨5,[(88,.agg ⟨[AI s,AI q]⟩)],.bool (HH s q),true⟩,⟨9,[(92,.agg ⟨[AI s,AI q]⟩)],.bool (Jv q),((HH s q)) && (true)⟩] v0.G (fun sp r=>?_) fun l2 x3 m1=>?_
      ·simp only [List.mem_cons,List.not_mem_nil,or_false] at r
       rcases r with rfl | rfl | rfl
       ·exact AV 109 [.tmp 85] [AI e0] (fun _=>by kernel_rfl) fun hc u hu=>AN hu (Py e0 u)
       ·exact AV 110 [.tmp 88] [.agg ⟨[AI s,AI q]⟩] (fun _=>by kernel_rfl) fun hc u hu=>AN hu (Pw s q u)
       ·exact AV 111 [.tmp 92] [.agg ⟨[AI s,AI q]⟩] (fun _=>by kernel_rfl) fun hc u hu=>AN hu (Wx s q u)
      refine Am 19 rO m1 [] fun k2 t0=>?_
      refine Ap t0 [] [] t0.G (fun sp r=>by cases r) fun i2 v3 l1=>?_
      refine AB ABJ l1 [] fun h2 k1=>?_
      exact AP k1 (0,0) (.bool (cond (cond (cond (cond (cond ((h == false) && ((g == 0) && ((f == 0) && (d == 0)))) (F3 c0) (false)) ((d0:Int) == 0) (false)) (Dy x) (false)) (Hy e0) (false)) (cond (HH s q) (Jv q) (false)) (false))) (by unfold Dd; rw [c8,j0,k0,l0,r0] <;> rfl)
     ·refine AB ABI w0 [] fun g2 i1=>?_
      exact AP i1 (0,0) (.bool false) (by unfold Dd; rw [c8,j0,k0,l0,r0] <;> rfl)
end
end Go.Proofs.YtkjbdagicjbjjaaGreat

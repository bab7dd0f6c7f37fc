/-
  Part 12 of a proof: contracts of functions.
-/
import Derived.Test.YtmcpjkcggfmcmaaGreatDoorD11
import Derived.Test.YtmcpjkcggfmcmaaGreatDoorD08
set_option linter.all false
namespace Go.Proofs.YtmcpjkcggfmcmaaGreatDoor
def DI (S:Nat→Prop) (w:World) (n:Nat) (A:Option Addr) (rs:List (List Value)):Prop:=
 rs=[]∨∃ g off,A=some ⟨g,off,none⟩∧S g∧g < w.heap.size∧∀ (i:Nat) r,rs[i]?=some r→∀ (j:Nat) u,r[j]?=some u→w.cell? ⟨g,off + i * n + j,none⟩=some u
mutual
def D2 (S:Nat→Prop) (w:World):Ex→List Value→Prop
 | .mk op num den mu hu du name count mode kids,cs=>∃ A c ks,cs=[D op,D num,D den,D mu,D hu,D du,.string ⟨name.toArray⟩,D count,D mode,.slice A kids.length c]∧
   Ev S w kids ks∧DI S w 10 A ks
def Ev (S:Nat→Prop) (w:World):List Ex→List (List Value)→Prop
 | [],ks=>ks=[]
 | e :: es,ks=>∃ c cs,ks=c :: cs∧D2 S w e c∧Ev S w es cs
end
theorem DI.of {lo n:Nat} {w:World} {A:Option Addr} {rs:List (List Value)} {S:Nat→Prop} (h:G5 lo w n A rs) (hl:∀ r∈rs,0 < r.length) (b:∀ g,lo≤g→g < w.heap.size→S g):DI S w n A rs:=by
 rcases h with h | ⟨g,off,rfl,hg,hc⟩
 ·exact .inl h
 ·cases rs with
  | nil=>exact .inl rfl
  | cons r rs=>
   have c:=hl r (by simp)
   obtain ⟨u,hu⟩:∃ u,r[0]?=some u:=⟨_,List.getElem?_eq_getElem c⟩
   have a:g < w.heap.size:=World.block_lt_of_cell? w _ (hc 0 r (by simp) 0 u hu)
   exact .inr ⟨g,off,rfl,b g hg a,a,hc⟩
theorem Bm.len10 {lo:Nat} {w:World}:∀ {es:List Ex} {ks:List (List Value)},Bm lo w es ks→∀ r∈ks,r.length=10
 | [],ks,h,r,hr=>by unfold Bm at h; subst h; cases hr
 | e :: es,ks,h,r,hr=>by
  unfold Bm at h
  obtain ⟨c,cs,rfl,b,h2⟩:=h
  rcases List.mem_cons.1 hr with rfl | a
  ·exact BX.len b
  ·exact Bm.len10 h2 r a
mutual
theorem D2.of {lo:Nat} {w:World} {S:Nat→Prop} (a:∀ g,lo≤g→g < w.heap.size→S g):∀ (e:Ex) (cs:List Value),BX lo w e cs→D2 S w e cs
 | .mk op num den mu hu du name count mode kids,cs,h=>by
  unfold BX at h
  unfold D2
  obtain ⟨A,c,ks,d,h2,b⟩:=h
  exact ⟨A,c,ks,d,Ev.of a kids ks h2,DI.of b (fun r hr=>by rw [Bm.len10 h2 r hr]; decide) a⟩
theorem Ev.of {lo:Nat} {w:World} {S:Nat→Prop} (a:∀ g,lo≤g→g < w.heap.size→S g):∀ (es:List Ex) (ks:List (List Value)),Bm lo w es ks→Ev S w es ks
 | [],ks,h=>by unfold Bm at h; unfold Ev; exact h
 | e :: es,ks,h=>by
  unfold Bm at h
  unfold Ev
  obtain ⟨c,cs,d,h2,b⟩:=h
  exact ⟨c,cs,d,D2.of a e c h2,Ev.of a es cs b⟩
end
theorem DI.keep {S b:Nat→Prop} {n:Nat} {w w':World} {A:Option Addr} {rs:List (List Value)} (h:DI S w n A rs) (hs:w.heap.size≤w'.heap.size) (hb:∀ g,S g→g < w.heap.size→b g∧w'.heap[g]?=w.heap[g]?):DI b w' n A rs:=by
 rcases h with h | ⟨g,off,rfl,hg,a,hc⟩
 ·exact .inl h
 ·have:=hb g hg a
  refine .inr ⟨g,off,rfl,this.1,by omega,fun i r hi j u c=>?_⟩
  rw [World.cell?_of_block (w:=w) this.2]
  exact hc i r hi j u c
mutual
theorem D2.keep {S a:Nat→Prop} {w w':World} (hs:w.heap.size≤w'.heap.size) (hb:∀ g,S g→g < w.heap.size→a g∧w'.heap[g]?=w.heap[g]?):∀ (e:Ex) (cs:List Value),D2 S w e cs→D2 a w' e cs
 | .mk op num den mu hu du name count mode kids,cs,h=>by
  unfold D2 at h ⊢
  obtain ⟨A,c,ks,d,h2,b⟩:=h
  exact ⟨A,c,ks,d,Ev.keep hs hb kids ks h2,b.keep hs hb⟩
theorem Ev.keep {S a:Nat→Prop} {w w':World} (hs:w.heap.size≤w'.heap.size) (hb:∀ g,S g→g < w.heap.size→a g∧w'.heap[g]?=w.heap[g]?):∀ (es:List Ex) (ks:List (List Value)),Ev S w es ks→Ev a w' es ks
 | [],ks,h=>by unfold Ev at h ⊢; exact h
 | e :: es,ks,h=>by
  unfold Ev at h ⊢
  obtain ⟨c,cs,d,h2,b⟩:=h
  exact ⟨c,cs,d,D2.keep hs hb e c h2,Ev.keep hs hb es cs b⟩
end
theorem D2.cells {S:Nat→Prop} {w:World} {x:Ex} {cs:List Value} (h:D2 S w x cs):∃ (a0 g a2 a3 a4 a5:Int) (f:List UInt8) (e d:Int) (A:Option Addr) (n c:Nat),cs=[D a0,D g,D a2,D a3,D a4,D a5,.string ⟨f.toArray⟩,D e,D d,.slice A n c]:=by
 obtain ⟨op,num,den,mu,hu,du,name,a,mode,b⟩:=x
 unfold D2 at h
 obtain ⟨A,c,ks,rfl,_⟩:=h
 exact ⟨_,_,_,_,_,_,_,_,_,_,_,_,rfl⟩
def Fp (S:Nat→Prop) (w:World) (d:Df) (cs:List Value):Prop:=
 ∃ A c bs,D2 S w d.body bs∧DI S w 3 A (d.ents.map DZ)∧cs=d.head A c++bs++d.tail
theorem Fp.of {lo:Nat} {w:World} {S:Nat→Prop} {d:Df} {cs:List Value} (h:Kq lo w d cs) (a:∀ g,lo≤g→g < w.heap.size→S g):Fp S w d cs:=by
 obtain ⟨A,c,bs,f,h2,b⟩:=h
 exact ⟨A,c,bs,D2.of a _ _ f,DI.of h2 (fun r hr=>by obtain ⟨e,_,rfl⟩:=List.mem_map.1 hr; simp [DZ]) a,b⟩
theorem Fp.keep {S a:Nat→Prop} {w w':World} {d:Df} {cs:List Value} (h:Fp S w d cs) (hs:w.heap.size≤w'.heap.size) (hb:∀ g,S g→g < w.heap.size→a g∧w'.heap[g]?=w.heap[g]?):Fp a w' d cs:=by
 obtain ⟨A,c,bs,e,h2,b⟩:=h
 exact ⟨A,c,bs,D2.keep hs hb _ _ e,h2.keep hs hb,b⟩
theorem Fp.len {S:Nat→Prop} {w:World} {d:Df} {cs:List Value} (h:Fp S w d cs):cs.length=21:=by
 obtain ⟨A,c,bs,a,_,rfl⟩:=h
 obtain ⟨_,_,_,_,_,_,_,_,_,_,_,_,rfl⟩:=a.cells
 simp [Df.head,Df.tail]
theorem Fp.cells {S:Nat→Prop} {w:World} {d:Df} {cs:List Value} (h:Fp S w d cs):∃ (A:Option Addr) (c:Nat) (a0 j a2 a3 a4 a5:Int) (i:List UInt8) (g f:Int) (B:Option Addr) (a b:Nat),cs=[D d.kind,.string ⟨d.name.toArray⟩,.bool d.tb,D d.tm,D d.th,D d.td,D d.frm,.slice A d.ents.length c,D a0,D j,D a2,D a3,D a4,D a5,.string ⟨i.toArray⟩,D g,D f,.slice B a b,D d.mode,D d.num,D d.den]:=by
 obtain ⟨A,c,bs,e,_,rfl⟩:=h
 obtain ⟨_,_,_,_,_,_,_,_,_,_,_,_,rfl⟩:=e.cells
 exact ⟨_,_,_,_,_,_,_,_,_,_,_,_,_,_,rfl⟩
def Fn (Pd:Df→Prop) (S:Nat→Prop) (w:World) (rs:List (List Value)):Prop:=∀ r∈rs,∃ d,Pd d∧Fp S w d r
theorem Fn.keep {b:Df→Prop} {S a:Nat→Prop} {w w':World} {rs:List (List Value)} (h:Fn b S w rs) (hs:w.heap.size≤w'.heap.size) (hb:∀ g,S g→g < w.heap.size→a g∧w'.heap[g]?=w.heap[g]?):Fn b a w' rs:=fun r hr=>by
 obtain ⟨d,c,h2⟩:=h r hr
 exact ⟨d,c,h2.keep hs hb⟩
theorem Fn.append {a:Df→Prop} {S:Nat→Prop} {w:World} {rs b:List (List Value)} (h:Fn a S w rs) (k:Fn a S w b):Fn a S w (rs++b):=fun r hr=>by
 rcases List.mem_append.1 hr with hr | hr
 ·exact h r hr
 ·exact k r hr
theorem Fn.len {a:Df→Prop} {S:Nat→Prop} {w:World} {rs:List (List Value)} (h:Fn a S w rs):∀ r∈rs,r.length=21:=fun r hr=>by
 obtain ⟨d,_,h2⟩:=h r hr
 exact h2.len
theorem I9 {rs:List (List Value)} {n:Nat} (h:∀ r∈rs,r.length=n):rs.flatten.length=rs.length * n:=by
 induction rs with
 | nil=>simp
 | cons r rs ih=>rw [List.flatten_cons,List.length_append,ih (fun r hr=>h r (by simp [hr])),h r (by simp),List.length_cons,Nat.succ_mul]; omega
end Go.Proofs.YtmcpjkcggfmcmaaGreatDoor
namespace Go.Proofs.YtmcpjkcggfmcmaaGreatDoor
noncomputable section
open Go.RowKit
set_option maxRecDepth 100000
mutual
def IM:Ex→Int→Bool
 | .mk op num den mu hu du name count mode kids,h=>cond (cond (cond (decide (h < 1)) true (!((kids.length:Int) == Cu op))) true (!(Cs op num den mu hu du name count mode))) false (Gv kids (h - 1))
def Gv:List Ex→Int→Bool
 | [],_=>true
 | e :: es,h=>cond (!(IM e h)) false (Gv es h)
end
mutual
def Dq:Ex→Prop
 | .mk _ _ _ _ _ _ name _ _ kids=>name.length≤4294967296∧kids.length≤4294967296∧Ik kids
def Ik:List Ex→Prop
 | []=>True
 | e :: es=>Dq e∧Ik es
end
theorem Jv:∀ {es:List Ex} {i:Nat} {e:Ex},Ik es→es[i]?=some e→Dq e
 | [],_,_,_,h=>by simp at h
 | x :: es,0,e,h,hi=>by unfold Ik at h; simp at hi; exact hi ▸ h.1
 | x :: es,i + 1,e,h,hi=>by unfold Ik at h; exact Jv h.2 (by simpa using hi)
theorem L1 {S:Nat→Prop} {w:World}:∀ {es:List Ex} {ks:List (List Value)} {i:Nat} {e:Ex},Ev S w es ks→es[i]?=some e→∃ r,ks[i]?=some r∧D2 S w e r
 | [],_,_,_,_,h=>by simp at h
 | x :: es,ks,i,e,h,hi=>by
  unfold Ev at h
  obtain ⟨c,cs,rfl,b,h2⟩:=h
  cases i with
  | zero=>simp at hi; subst hi; exact ⟨c,by simp,b⟩
  | succ i=>obtain ⟨r,hr,a⟩:=L1 (i:=i) h2 (by simpa using hi); exact ⟨r,by simpa using hr,a⟩
theorem JL:∀ {es:List Ex} {i:Nat} {e:Ex},es[i]?=some e→Ex.height e≤Ex.heights es
 | [],_,_,h=>by simp at h
 | x :: es,0,e,h=>by unfold Ex.heights; simp at h; subst h; omega
 | x :: es,i + 1,e,h=>by unfold Ex.heights; have:=JL (es:=es) (i:=i) (e:=e) (by simpa using h); omega
abbrev CY:Nat→Prop:=fun _=>True
theorem D2.below {w w':World} {e:Ex} {cs:List Value} (h:D2 CY w e cs) (B:Below w.heap.size w w'):D2 CY w' e cs:=D2.keep B.size (fun g _ hg=>⟨trivial,B.block g hg⟩) e cs h
theorem Ev.below {w w':World} {es:List Ex} {ks:List (List Value)} (h:Ev CY w es ks) (B:Below w.heap.size w w'):Ev CY w' es ks:=Ev.keep B.size (fun g _ hg=>⟨trivial,B.block g hg⟩) es ks h
theorem DI.below {w w':World} {n:Nat} {A:Option Addr} {rs:List (List Value)} (h:DI CY w n A rs) (B:Below w.heap.size w w'):DI CY w' n A rs:=DI.keep h B.size fun g _ hg=>⟨trivial,B.block g hg⟩
abbrev Nw (op num den mu hu du:Int) (nm:List UInt8) (cnt md:Int) (A:Option Addr) (n c:Nat):List Value:=[D op,D num,D den,D mu,D hu,D du,.string ⟨⟨nm⟩⟩,D cnt,D md,.slice A n c]
noncomputable def P0:Code:=Tryz.f124.body.getD .skip
def WW:=Ad 1 [.code P0]
def eQ:=AB 60 (AP WW)
def WV:=AB 60 (AL eQ)
def Sc:=AB 60 (Ay WV)
def eP:=AB (BA Ai 90 (AG Sc)) (AG Sc)
def eO:=AB 60 (AE (AE eP))
def nf:=AB 60 (AE eO)
def Qq (n:Nat):Prop:=∀ (e:Ex) (cs:List Value) (h:Int) (w:World),e.height≤n→Dq e→D2 CY w e cs→-1000000≤h→h≤1000000→Calls Tryz.prog 124 ([.agg ⟨cs⟩,D h]:List Value).toArray w fun en w'=>en=.returned (.bool (IM e h))∧Below w.heap.size w w'
theorem Zf {a:List Ex} {h:Int}:∀ (i:Nat) (e:Ex),a[i]?=some e→Gv (a.drop i) h=cond (!(IM e h)) false (Gv (a.drop (i + 1)) h):=fun i e hi=>by
 have hl:i < a.length:=(List.getElem?_eq_some_iff.1 hi).1
 have he:a[i]=e:=(List.getElem?_eq_some_iff.1 hi).2
 rw [← List.getElem_cons_drop hl,Gv,he]
theorem eD (n:Nat) (IH:Qq n):Qq (n + 1):=by
 rintro ⟨op,num,den,mu,hu,du,nm,cnt,md,a⟩ cs h w hh ht hx h0 h1
 unfold D2 at hx
 obtain ⟨A,c,ks,rfl,f0,b⟩:=hx
 unfold Dq at ht
 obtain ⟨hs,hl,ht⟩:=ht
 have d1:Ex.heights a≤n:=by unfold Ex.height at hh; omega
 clear hh
 rw [show IM (.mk op num den mu hu du nm cnt md a) h=cond (cond (cond (decide (h < 1)) true (!((a.length:Int) == Cu op))) true (!(Cs op num den mu hu du nm cnt md))) false (Gv a (h - 1)) by rw [IM]]
 refine GD (args:=[.agg ⟨Nw op num den mu hu du nm cnt md A a.length c⟩,D h]) (fn:=Tryz.f124) (c:=P0) (n:=36) ?_
 refine Am (JO 1 90 [.code P0]) [.code P0] w.heap.size [] [] WW [(1,D h),(2,.pointer (some ⟨w.heap.size,0,none⟩))] (w.heap.size + 1) [⟨w.heap.size,0,Nw op num den mu hu du nm cnt md A a.length c,32,true⟩] (Br w) fun w1 E1 k0 x0=>?_
 have B1:Below w.heap.size w w1:=CX x0
 have G1:=k0.sat.good
 refine HW ((C6 WW).getD #[]) ⟨[⟨w.heap.size,0,Nw op num den mu hu du nm cnt md A a.length c,32,true⟩],[(4,0,9),(7,0,0),(12,0,0)],[⟨8,[(14,D op)],D (Cu op),(!(decide (h < 1))) && true⟩,⟨13,[(19,.agg ⟨Nw op num den mu hu du nm cnt md A a.length c⟩)],.bool (Cs op num den mu hu du nm cnt md),(!(cond (decide (h < 1)) true (!((a.length:Int) == Cu op)))) && true⟩]⟩ [(1,D h),(2,.pointer (some ⟨w.heap.size,0,none⟩)),(22,.bool (cond (cond (decide (h < 1)) true (!((a.length:Int) == Cu op))) true (!(Cs op num den mu hu du nm cnt md))))] (by kernel_rfl) (by kernel_rfl) (by kernel_rfl) G1 (fun sp z=>?_) (fun X=>by kernel_rfl) (by kernel_rfl) fun y E2 b2=>?_
 ·simp only [List.mem_cons,List.not_mem_nil,or_false] at z
  rcases z with rfl | rfl
  ·exact AX 148 [.tmp 14] [D op] (fun _=>by kernel_rfl) fun _ u v=>AR v (iQ op u)
  ·exact AX 149 [.tmp 19] [.agg ⟨Nw op num den mu hu du nm cnt md A a.length c⟩] (fun _=>by kernel_rfl) fun _ u v=>AR v (Oe op num den mu hu du nm cnt md A a.length c u hs)
 have B2:=B1.trans (b2.mono B1.size)
 have G2:=Az G1 b2
 have d:cond (cond (decide (h < 1)) true (!((a.length:Int) == Cu op))) true (!(Cs op num den mu hu du nm cnt md))=false→1≤h:=fun v=>by
  by_cases hb:h < 1
  ·rw [decide_eq_true hb] at v; exact nomatch v
  ·omega
 generalize cond (cond (decide (h < 1)) true (!((a.length:Int) == Cu op))) true (!(Cs op num den mu hu du nm cnt md))=bad at d ⊢
 refine Am 60 (AP WW) y.heap.size [] [] eQ [(1,D h),(2,.pointer (some ⟨w.heap.size,0,none⟩)),(22,.bool bad)] y.heap.size [] (Br y) fun w3 E3 m1 w0=>?_
 have b3:Below y.heap.size y w3:=CX w0
 have B3:=B2.trans (b3.mono B2.size)
 have G3:=Az G2 b3
 cases bad with
 | true=>
  refine Cf true (fun _=>?_) (fun h=>nomatch h)
  exact Eg (fn:=Tryz.f124) 60 (.bool false) fun wz Bz=>⟨rfl,B3.trans (Bz.mono B3.size)⟩
 | false=>
 rw [show cond false false (Gv a (h - 1))=Gv a (h - 1) from rfl]
 have d:=d rfl
 refine Cf false (fun h=>nomatch h) fun _=>?_
 refine Am 60 (AL eQ) w3.heap.size [⟨w.heap.size,0,Nw op num den mu hu du nm cnt md A a.length c,32,true⟩] [(0,9)] WV [(1,D h),(24,.slice A a.length c),(25,D (a.length:Nat)),(26,D ((0:Nat):Int))] w3.heap.size [⟨w.heap.size,0,Nw op num den mu hu du nm cnt md A a.length c,32,true⟩] (LE w3 _ G3 (by simp)) fun w4 E4 k1 v0=>?_
 have B4:Below w.heap.size w w4:=B3.trans (v0.below B3.size (fun k hk=>by rw [List.mem_singleton.1 hk]; exact Nat.le_refl _))
 refine Bi (by kernel_rfl) (fun E x=>∃ (i:Nat) (E0:Nat→Value),i≤a.length∧E=Aw E0 [(1,D h),(24,.slice A a.length c),(25,D (a.length:Nat)),(26,D (i:Nat))]∧Gv a (h - 1)=Gv (a.drop i) (h - 1)∧Below w.heap.size w x)
  (fun E _=>a.length - AQ (E 26)) ⟨0,E4,Nat.zero_le _,rfl,rfl,B4⟩ ?_
 rintro E x ⟨i,E0,hi,rfl,hv,Bx⟩ l
 refine Am 60 (Ay WV) x.heap.size [] [] Sc [(1,D h),(24,.slice A a.length c),(25,D (a.length:Nat)),(26,D (i:Nat)),(27,.bool (decide ((i:Int) < (a.length:Int))))] x.heap.size [] (Br x) fun t E5 i1 t0=>?_
 have B5:=Bx.trans ((CX t0).mono Bx.size)
 refine Cf (decide ((i:Int) < (a.length:Int))) (fun p=>?_) (fun p=>?_)
 ·have f:i < a.length:=by have:=of_decide_eq_true p; omega
  obtain ⟨e,he⟩:∃ e,a[i]?=some e:=⟨_,List.getElem?_eq_getElem f⟩
  rw [Zf i e he] at hv
  obtain ⟨r,hr,o⟩:=L1 f0 he
  rcases b with b | ⟨g,off,rfl,_,hg,q⟩
  ·rw [b] at hr; simp at hr
  have m:=q i r hr
  have c0:r.length=10:=by
   obtain ⟨_,_,_,_,_,_,_,_,_,_,_,_,rfl⟩:=o.cells
   rfl
  have c1:t.rangeAt g (off + i * 10) r:=fun j u hu=>(World.cell?_of_block (B5.block g hg)).trans (m j u hu)
  refine Am (BA Ai 90 (AG Sc)) (AG Sc) t.heap.size [] [] eP [(1,D h),(24,.slice (some ⟨g,off,none⟩) a.length c),(25,D (a.length:Nat)),(26,D (i:Nat))] t.heap.size [] (Br t) fun s E6 g1 r0=>?_
  have b6:Below t.heap.size t s:=CX r0
  have B6:=B5.trans (b6.mono B5.size)
  have e0:s.rangeAt g (off + i * 10) r:=fun j u hu=>(World.cell?_of_block (B6.block g hg)).trans (m j u hu)
  refine BH (g:=g) (off:=off) (cap:=c) (sz:=10) (k:=i) (len:=a.length) (some 28) f Tryz.underlying30 ?_
  refine CC 32 g (off + i * 10) r (some 29) (h2:=by rw [c0]; kernel_rfl) e0 ?_
  have d0:IntKind.i64.wrap (h - 1)=h - 1:=IntWalk.i64_in _ (by omega)
  obtain ⟨a0,a1,a2,a3,a4,a5,a6,a7,a8,A9,n9,c9,rfl⟩:=o.cells
  refine Am 60 (AE (AE eP)) s.heap.size [] [(0,0),(0,0)] eO [(1,D h),(24,.slice (some ⟨g,off,none⟩) a.length c),(25,D (a.length:Nat)),(26,D (i:Nat)),(30,.agg ⟨Nw a0 a1 a2 a3 a4 a5 a6 a7 a8 A9 n9 c9⟩),(32,D (IntKind.i64.wrap (h - 1)))] (s.heap.size + 1) [⟨s.heap.size,0,Nw a0 a1 a2 a3 a4 a5 a6 a7 a8 A9 n9 c9,32,true⟩] (Br s) fun w7 E7 f1 q0=>?_
  have B7:=B6.trans ((CX q0).mono B6.size)
  rw [d0]
  refine Cw 124 [.tmp 30,.tmp 32] (some 33) [.agg ⟨Nw a0 a1 a2 a3 a4 a5 a6 a7 a8 A9 n9 c9⟩,D (h - 1)] ((IH e _ (h - 1) w7 (by have:=JL he; omega) (Jv ht he) (o.below B7) (by omega) (by omega)).mono fun en w8 hh=>?_)
  obtain ⟨rfl,b8⟩:=hh
  refine ⟨_,rfl,?_⟩
  have B8:=B7.trans (b8.mono B7.size)
  generalize IM e (h - 1)=be at *
  refine Am 60 (AE eO) w8.heap.size [] [] nf [(1,D h),(24,.slice (some ⟨g,off,none⟩) a.length c),(25,D (a.length:Nat)),(26,D (i:Nat)),(34,.bool (!be))] w8.heap.size [] (Br w8) fun w9 E9 e1 p0=>?_
  have B9:=B8.trans ((CX p0).mono B8.size)
  cases be with
  | false=>
   rw [hv]
   refine Cf true (fun _=>?_) (fun h=>nomatch h)
   exact Eg (fn:=Tryz.f124) 60 (.bool false) fun wz Bz=>⟨rfl,B9.trans (Bz.mono B9.size)⟩
  | true=>
   refine Cf false (fun h=>nomatch h) fun _=>?_
   refine Am 60 (AL nf) w9.heap.size [] [] (Aj WV) [(1,D h),(24,.slice (some ⟨g,off,none⟩) a.length c),(25,D (a.length:Nat)),(26,D (IntKind.i64.wrap ((i:Int) + 1)))] w9.heap.size [] (Br w9) fun b1 y0 z0 b0=>?_
   rw [Bs i (by omega)]
   refine l _ _ ⟨i + 1,y0,f,rfl,hv,B9.trans ((CX b0).mono B9.size)⟩ ?_
   show a.length - AQ (D ((i + 1:Nat):Int)) < a.length - AQ (D (i:Int))
   simp only [AQ]
   omega
 ·have i0:i=a.length:=by have:=of_decide_eq_false p; omega
  rw [hv,i0,List.drop_length,Gv]
  exact Eg (fn:=Tryz.f124) 60 (.bool true) fun wz Bz=>⟨rfl,B5.trans (Bz.mono B5.size)⟩
theorem Vg:∀ n,Qq n
 | 0=>fun e cs h w a=>absurd a (by cases e; unfold Ex.height; omega)
 | n + 1=>eD n (Vg n)
end
end Go.Proofs.YtmcpjkcggfmcmaaGreatDoor
namespace Go.Proofs.YtmcpjkcggfmcmaaGreatDoor
noncomputable section
open Go.RowKit
set_option maxRecDepth 100000
def JG:List (Int×Int×Int)→Int→Bool
 | [],_=>true
 | e :: es,b=>cond (cond (cond (decide (e.1≤b)) true (decide (1000000 < e.1))) true (!(ET e.2.1 e.2.2))) false (JG es e.1)
def Fu (es:List (Int×Int×Int)):Bool:=cond (cond (decide ((es.length:Int) < 1)) true (decide (64 < (es.length:Int)))) false (JG es (-1))
theorem Zg {es:List (Int×Int×Int)} {b:Int} (i:Nat) (e:Int×Int×Int) (hi:es[i]?=some e):JG (es.drop i) b=cond (cond (cond (decide (e.1≤b)) true (decide (1000000 < e.1))) true (!(ET e.2.1 e.2.2))) false (JG (es.drop (i + 1)) e.1):=by
 have hl:i < es.length:=(List.getElem?_eq_some_iff.1 hi).1
 have he:es[i]=e:=(List.getElem?_eq_some_iff.1 hi).2
 rw [← List.getElem_cons_drop hl,JG,he]
noncomputable def Pz:Code:=Tryz.f79.body.getD .skip
def WM:=Ad 1 [.code Pz]
def eL:=AB 60 (AP WM)
def WP:=AB 60 (AL eL)
def Sb:=AB 60 (Ay WP)
def WO:=AB (BA Ai 90 (AG Sb)) (AG Sb)
def WN:=Ad 7 (AE (AE WO))
def nW:=AB 60 (AP WN)
theorem N4 (es:List (Int×Int×Int)) (A:Option Addr) (c:Nat) (w:World) (a:DI CY w 3 A (es.map DZ)):Calls Tryz.prog 79 ([.slice A es.length c]:List Value).toArray w fun e w'=>e=.returned (.bool (Fu es))∧Below w.heap.size w w':=by
 refine GD (args:=[.slice A es.length c]) (fn:=Tryz.f79) (c:=Pz) (n:=38) ?_
 refine Am (JO 1 90 [.code Pz]) [.code Pz] w.heap.size [] [] WM [(0,.slice A es.length c)] w.heap.size [] (Br w) fun w0 E0 b1 p0=>?_
 have B0:Below w.heap.size w w0:=CX p0
 refine HW ((C6 WM).getD #[]) ⟨[],[],[]⟩ [(0,.slice A es.length c),(13,.bool (cond (decide ((es.length:Int) < 1)) true (decide (64 < (es.length:Int)))))] (by kernel_rfl) (by kernel_rfl) (by kernel_rfl) (fun e he=>by cases he) (fun sp p=>by cases p) (fun X=>by kernel_rfl) (by kernel_rfl) fun wa Ea ba=>?_
 have Ba:=B0.trans (ba.mono B0.size)
 refine Am 60 (AP WM) wa.heap.size [] [] eL [(0,.slice A es.length c),(13,.bool (cond (decide ((es.length:Int) < 1)) true (decide (64 < (es.length:Int)))))] wa.heap.size [] (Br wa) fun w1 E1 a1 k0=>?_
 have B1:Below w.heap.size w w1:=Ba.trans ((CX k0).mono Ba.size)
 unfold Fu
 have m:cond (decide ((es.length:Int) < 1)) true (decide (64 < (es.length:Int)))=false→es.length≤64:=fun t=>by
  by_cases hb:64 < (es.length:Int)
  ·by_cases hc:(es.length:Int) < 1
   ·omega
   ·rw [decide_eq_true hb,decide_eq_false hc] at t; exact nomatch t
  ·omega
 generalize cond (decide ((es.length:Int) < 1)) true (decide (64 < (es.length:Int)))=bad at m ⊢
 cases bad with
 | true=>
  refine Cf true (fun _=>?_) (fun h=>nomatch h)
  exact Eg (fn:=Tryz.f79) 60 (.bool false) fun wz Bz=>⟨rfl,B1.trans (Bz.mono B1.size)⟩
 | false=>
 have m:=m rfl
 rw [show cond false false (JG es (-1))=JG es (-1) from rfl]
 refine Cf false (fun h=>nomatch h) fun _=>?_
 refine Am 60 (AL eL) w1.heap.size [] [] WP [(3,D (-1)),(14,.slice A es.length c),(15,D (es.length:Nat)),(16,D ((0:Nat):Int))] w1.heap.size [] (Br w1) fun w4 E4 z0 i0=>?_
 have B4:Below w.heap.size w w4:=B1.trans ((CX i0).mono B1.size)
 refine Bi (by kernel_rfl) (fun E v=>∃ (i:Nat) (b:Int) (E0:Nat→Value),i≤es.length∧E=Aw E0 [(3,D b),(14,.slice A es.length c),(15,D (es.length:Nat)),(16,D (i:Nat))]∧JG es (-1)=JG (es.drop i) b∧Below w.heap.size w v)
  (fun E _=>es.length - AQ (E 16)) ⟨0,-1,E4,Nat.zero_le _,rfl,rfl,B4⟩ ?_
 rintro E v ⟨i,b,E0,hi,rfl,hv,Bx⟩ o
 refine Am 60 (Ay WP) v.heap.size [] [] Sb [(3,D b),(14,.slice A es.length c),(15,D (es.length:Nat)),(16,D (i:Nat)),(17,.bool (decide ((i:Int) < (es.length:Int))))] v.heap.size [] (Br v) fun w5 E5 y0 h0=>?_
 have B5:=Bx.trans ((CX h0).mono Bx.size)
 refine Cf (decide ((i:Int) < (es.length:Int))) (fun r=>?_) (fun r=>?_)
 ·have l:i < es.length:=by have:=of_decide_eq_true r; omega
  obtain ⟨⟨k,n,d⟩,he⟩:∃ e,es[i]?=some e:=⟨_,List.getElem?_eq_getElem l⟩
  rw [Zg i _ he] at hv
  have hr:(es.map DZ)[i]?=some [D k,D n,D d]:=by rw [List.getElem?_map,he]; rfl
  rcases a with a | ⟨g,off,rfl,_,hg,s⟩
  ·rw [a] at hr; simp at hr
  have y:=s i _ hr
  refine Am (BA Ai 90 (AG Sb)) (AG Sb) w5.heap.size [] [] WO [(3,D b),(14,.slice (some ⟨g,off,none⟩) es.length c),(15,D (es.length:Nat)),(16,D (i:Nat))] w5.heap.size [] (Br w5) fun f E6 x0 f0=>?_
  have B6:=B5.trans ((CX f0).mono B5.size)
  have a0:f.rangeAt g (off + i * 3) [D k,D n,D d]:=fun j u hu=>(World.cell?_of_block (B6.block g hg)).trans (y j u hu)
  refine BH (g:=g) (off:=off) (cap:=c) (sz:=3) (k:=i) (len:=es.length) (some 18) l Tryz.underlying27 ?_
  refine CC 97 g (off + i * 3) [D k,D n,D d] (some 19) a0 ?_
  refine Am (JO 7 90 (AE (AE WO))) (AE (AE WO)) f.heap.size [] [(0,0)] WN [(3,D b),(5,.pointer (some ⟨f.heap.size,0,none⟩)),(14,.slice (some ⟨g,off,none⟩) es.length c),(15,D (es.length:Nat)),(16,D (i:Nat))] (f.heap.size + 1) [⟨f.heap.size,0,[D k,D n,D d],97,true⟩] (Br f) fun w7 E7 c0 e0=>?_
  have B7:=B6.trans ((CX e0).mono B6.size)
  have G7:=c0.sat.good
  refine HW ((C6 WN).getD #[]) ⟨[⟨f.heap.size,0,[D k,D n,D d],97,true⟩],[(1,0,0),(6,0,0),(11,0,1)],[⟨12,[(31,.agg ⟨[D n,D d]⟩)],.bool (ET n d),(!(cond (decide (k≤b)) true (decide (1000000 < k)))) && true⟩]⟩ [(5,.pointer (some ⟨f.heap.size,0,none⟩)),(14,.slice (some ⟨g,off,none⟩) es.length c),(15,D (es.length:Nat)),(16,D (i:Nat)),(34,.bool (cond (cond (decide (k≤b)) true (decide (1000000 < k))) true (!(ET n d))))] (by kernel_rfl) (by kernel_rfl) (by kernel_rfl) G7 (fun sp p=>?_) (fun X=>by kernel_rfl) (by kernel_rfl) fun x E8 b8=>?_
  ·rw [List.mem_singleton.1 p]
   exact AX 123 [.tmp 31] [.agg ⟨[D n,D d]⟩] (fun _=>by kernel_rfl) fun _ u t=>AR t (KF n d u)
  have B8:=B7.trans (b8.mono B7.size)
  have G8:=Az G7 b8
  generalize cond (cond (decide (k≤b)) true (decide (1000000 < k))) true (!(ET n d))=bad at hv ⊢
  refine Am 60 (AP WN) x.heap.size [] [] nW [(5,.pointer (some ⟨f.heap.size,0,none⟩)),(14,.slice (some ⟨g,off,none⟩) es.length c),(15,D (es.length:Nat)),(16,D (i:Nat)),(34,.bool bad)] x.heap.size [] (Br x) fun w9 E9 v0 d0=>?_
  have b9:Below x.heap.size x w9:=CX d0
  have B9:=B8.trans (b9.mono B8.size)
  have G9:=Az G8 b9
  cases bad with
  | true=>
   rw [hv]
   refine Cf true (fun _=>?_) (fun h=>nomatch h)
   exact Eg (fn:=Tryz.f79) 60 (.bool false) fun wz Bz=>⟨rfl,B9.trans (Bz.mono B9.size)⟩
  | false=>
   refine Cf false (fun h=>nomatch h) fun _=>?_
   refine Am 60 (AL nW) w9.heap.size [⟨f.heap.size,0,[D k,D n,D d],97,true⟩] [(0,0)] (Aj WP) [(3,D k),(14,.slice (some ⟨g,off,none⟩) es.length c),(15,D (es.length:Nat)),(16,D (IntKind.i64.wrap ((i:Int) + 1)))] w9.heap.size [⟨f.heap.size,0,[D k,D n,D d],97,true⟩] (LE w9 _ G9 (by simp)) fun t0 q0 r0 z=>?_
   rw [Bs i (by omega)]
   refine o _ _ ⟨i + 1,k,q0,l,rfl,hv,z.below B9.size (fun q t=>by rw [List.mem_singleton.1 t]; exact B6.size) |> B9.trans⟩ ?_
   show es.length - AQ (D ((i + 1:Nat):Int)) < es.length - AQ (D (i:Int))
   simp only [AQ]
   omega
 ·have b0:i=es.length:=by have:=of_decide_eq_false r; omega
  rw [hv,b0,List.drop_length,JG]
  exact Eg (fn:=Tryz.f79) 60 (.bool true) fun wz Bz=>⟨rfl,B5.trans (Bz.mono B5.size)⟩
end
end Go.Proofs.YtmcpjkcggfmcmaaGreatDoor

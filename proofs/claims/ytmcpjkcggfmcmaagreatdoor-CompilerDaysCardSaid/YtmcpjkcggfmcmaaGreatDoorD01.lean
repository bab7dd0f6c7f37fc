/-
  Part 1 of a proof: contracts of functions.
-/
import Derived.KernelRfl
import Derived.Test.YtmcpjkcggfmcmaaGreatDoorD00
import Derived.Deep.MidRow
import Derived.Laws.Cells
import Derived.Laws.AppendOwn
set_option linter.all false
namespace Go.Proofs.YtmcpjkcggfmcmaaGreatDoor
def T9 (l:List (Tmp×Value)) (ρ:Operand→Value):Operand→Value
 | .tmp t=>match l.find? (fun p=>p.1 == t) with
  | some p=>p.2
  | none=>ρ (.tmp t)
 | x=>ρ x
def Gy (ρ:Operand→Value):List (Tmp×Value)→Prop
 | []=>True
 | p :: l=>ρ (.tmp p.1)=p.2∧Gy ρ l
theorem Gy.mem {ρ:Operand→Value}:∀ {l:List (Tmp×Value)},Gy ρ l→∀ p∈l,ρ (.tmp p.1)=p.2
 | [],_,p,hp=>by cases hp
 | q :: l,h,p,hp=>by
  rcases List.mem_cons.1 hp with rfl | a
  ·exact h.1
  ·exact Gy.mem h.2 p a
theorem T8 {ρ:Operand→Value} {l:List (Tmp×Value)} (h:Gy ρ l):T9 l ρ=ρ:=by
 funext x
 cases x with
 | tmp t=>
  unfold T9
  cases hf:l.find? (fun p=>p.1 == t) with
  | none=>simp only [hf]
  | some p=>
   have hm:=List.mem_of_find?_eq_some hf
   have ht:p.1=t:=by simpa using List.find?_some hf
   have:=h.mem p hm
   rw [ht] at this
   simp only [hf]
   exact this.symm
 | const v=>rfl
 | global g=>rfl
 | func f=>rfl
theorem AH.over {P:Program} {o:Oper} {ρ:Operand→Value} {w:World} {K:Value→World→Prop} (l:List (Tmp×Value)) (h:Gy ρ l) (a:AH P o (T9 l ρ) w K):AH P o ρ w K:=by
 rw [T8 h] at a; exact a
def KV (vals:Nat→Value):List (Tmp×Nat×Value)→Prop
 | []=>True
 | p :: l=>vals p.2.1=p.2.2∧KV vals l
def KA (a0:Act):List (Tmp×Value)→Prop
 | []=>True
 | p :: l=>a0.eval (.tmp p.1)=p.2∧KA a0 l
theorem PX {a0:Act} {W:Wr} {a:Nat→Value}:∀ {l:List (Tmp×Nat×Value)},(∀ p∈l,W.of p.1=some p.2.1)→KV a l→∀ {r:List (Tmp×Value)},Gy (CM a0 W a) r→Gy (CM a0 W a) (l.map (fun p=>(p.1,p.2.2))++r)
 | [],_,_,_,h=>h
 | p :: l,hw,hv,r,h=>by
  refine ⟨?_,PX (fun q b=>hw q (by simp [b])) hv.2 h⟩
  have:=hw p (by simp)
  unfold CM
  simp only [this]
  exact hv.1
theorem RB {a0:Act} {W:Wr} {a:Nat→Value}:∀ {l:List (Tmp×Value)},(∀ p∈l,W.of p.1=none)→KA a0 l→Gy (CM a0 W a) l
 | [],_,_=>trivial
 | p :: l,hw,hv=>by
  refine ⟨?_,RB (fun q b=>hw q (by simp [b])) hv.2⟩
  have:=hw p (by simp)
  unfold CM
  simp only [this]
  exact hv.1
theorem AH.known {P:Program} {o:Oper} {a0:Act} {W:Wr} {a:Nat→Value} {w:World} {K:Value→World→Prop} (l:List (Tmp×Nat×Value)) (r:List (Tmp×Value))
  (hc:(l.all (fun p=>W.of p.1 == some p.2.1) && r.all (fun p=>W.of p.1 == none))=true) (hv:KV a l) (ha:KA a0 r)
  (b:AH P o (T9 (l.map (fun p=>(p.1,p.2.2))++r) (CM a0 W a)) w K):AH P o (CM a0 W a) w K:=by
 simp only [Bool.and_eq_true,List.all_eq_true,beq_iff_eq] at hc
 exact AH.over _ (PX hc.1 hv (RB hc.2 ha)) b
theorem AH.loadMid {P:Program} {o:Oper} {ρ:Operand→Value} {w:World} {K:Value→World→Prop} (ty:TypeId) (x:Operand) {b off:Nat} (a:ρ x=.pointer (some ⟨b,off,none⟩)) (cs:List Value) (hc:w.rangeAt b off cs) (c:K (.agg cs.toArray) w) (ho:o.op=.load ty x:=by kernel_rfl) (hr:(P.underlying ty).map TypeDesc.isRow=some true:=by kernel_rfl) (hi:(P.info? ty).map (·.size)=some cs.length:=by kernel_rfl):AH P o ρ w K:=by
 cases hu:P.underlying ty with
 | none=>rw [hu] at hr; cases hr
 | some d=>
  have hd:d.isRow=true:=by rw [hu] at hr; exact Option.some.inj hr
  refine AH.value (v:=.agg cs.toArray) (w':=w) (h:=?_) c
  unfold execOp
  simp only [ho,a,Instr.loadAt,Instr.sureAddr,Sem.run_bind,Sem.run_pure,Result.andThen_ok,run_loadVar_mid w b off ty cs d hc hu hd hi]
theorem AH.loadOne {P:Program} {o:Oper} {ρ:Operand→Value} {w:World} {K:Value→World→Prop} (ty:TypeId) (x:Operand) (ho:o.op=.load ty x)
  {a:Addr} (b:ρ x=.pointer (some a)) {v:Value} (hc:w.cell? a=some v) (hg:(isAgg ty).run P w=.ok false w)
  (c:K v w):AH P o ρ w K:=by
 refine AH.value (v:=v) (w':=w) (h:=?_) c
 unfold execOp
 have hl:(load a).run P w=.ok v w:=by unfold load; simp [Sem.run,hc]
 simp only [ho,b,Instr.loadAt,Instr.sureAddr,Sem.run_bind,Sem.run_pure,Result.andThen_ok,loadVar,hg,Bool.false_eq_true,if_false,hl]
theorem KW {w:World} {g:Nat} {C:Array Value} {T:TypeId} {fr:Nat×Nat} (h:w.heap[g]?=some (.cells C T fr)) (off:Nat) (cs:List Value) (hc:∀ j v,cs[j]?=some v→C[off + j]?=some v):w.rangeAt g off cs:=by
 intro j v hv
 unfold World.cell?
 rw [h]
 exact hc j v hv
theorem H1 {w:World} {g:Nat} {cs:List Value} {T:TypeId} {fr:Nat×Nat} (h:w.heap[g]?=some (.cells cs.toArray T fr)):w.rangeAt g 0 cs:=
 KW h 0 cs (fun j v hv=>by rw [Nat.zero_add,List.getElem?_toArray]; exact hv)
def AN (i:Nat) (B:List Nat) (v:Value):Ci:=⟨i,B,[i],fun vs _=>vs=[v]⟩
theorem Bg {P:Program} {ops:Array Oper} {a0:Act} {W:Wr} {C:World→Prop} {Ext:World→World→Prop} {L:List Ci} {i:Nat} {B:List Nat} {v:Value} (b:∀ w:World,Ext w w)
  (h:∀ (a:Nat→Value) (w:World),C w→HL B a w L→(execOp (CM a0 W a) (ops.getD i default)).run P w=.ok (.value v) w):DU P ops a0 W C Ext L (AN i B v):=
 ⟨fun _ _ _ _ _ h=>h,fun a w c hb=>AH.value (h:=(h a w c hb)) ⟨c,b w,by simp [AN,FR]⟩⟩
theorem DF {w:World} {g:Nat} {l:List Value} {T:TypeId} {fr:Nat×Nat} (h:w.heap[g]?=some (.cells l.toArray T fr)) (off:Nat) (cs:List Value) (hc:(l.drop off).take cs.length=cs):w.rangeAt g off cs:=by
 refine KW h off cs fun j v hv=>?_
 rw [List.getElem?_toArray]
 rw [← hc] at hv
 rw [List.getElem?_take] at hv
 split at hv
 ·rw [List.getElem?_drop] at hv; exact hv
 ·cases hv
theorem JU {ops:Array Oper} {b:Nat→Value} {A:List Nat} {a:Act} (t:Nat) (h:(A.all fun i=>D9 ops i != some t)=true):(Ey ops b A a).eval (.tmp t)=a.eval (.tmp t):=by
 show (Ey ops b A a).tmps.getD t undef=a.tmps.getD t undef
 rw [Array.getD_eq_getD_getElem?,Array.getD_eq_getD_getElem?,LM]
 intro i hi
 rw [List.all_eq_true] at h
 have:=h i hi
 simpa using this
theorem LL {ops:Array Oper} {b:Nat→Value} {A:List Nat} {a:Act} (t j:Nat) (h:((A.all fun i=>D9 ops i != some t || i == j) && A.contains j && D9 ops j == some t)=true) (ht:t < a.tmps.size):(Ey ops b A a).eval (.tmp t)=b j:=by
 simp only [Bool.and_eq_true,List.all_eq_true,List.contains_iff_mem,beq_iff_eq,Bool.or_eq_true,bne_iff_ne] at h
 obtain ⟨⟨d,h2⟩,c⟩:=h
 show (Ey ops b A a).tmps.getD t undef=b j
 rw [Array.getD_eq_getD_getElem?,Pp ops b t j A a (fun i hi hd=>(d i hi).resolve_left (fun hn=>hn hd)) h2 c ht]
 rfl
theorem Ej {w:World} {g:Nat} {C:Array Value} {T:TypeId} (h:w.heap[g]?=some (.cells C T (0,0))) (off n:Nat) (hn:off + n≤C.size):w.there g off n:=by
 intro j a
 unfold World.cell? World.frozen?
 rw [h]
 constructor
 ·have:off + j < C.size:=by omega
  simp [this]
 ·simp
theorem Ma {P:Program} {fn:Func} {a:Act} {w:World} {t:Tmp} {ty:TypeId} {b:Nat} (hr:fn.results=#[.cell t ty]) (f:a.eval (.tmp t)=.pointer (some ⟨b,0,none⟩)) (cs:List Value) (hc:w.rangeAt b 0 cs) (c:(P.underlying ty).map TypeDesc.isRow=some true) (hi:(P.info? ty).map (·.size)=some cs.length) :
  (results fn a.tmps).run P w=.ok (.agg cs.toArray) w:=by
 cases hu:P.underlying ty with
 | none=>rw [hu] at c; cases c
 | some d=>
  have hd:d.isRow=true:=by rw [hu] at c; exact Option.some.inj c
  have e:a.tmps[t]?.getD undef=.pointer (some ⟨b,0,none⟩):=(Array.getD_eq_getD_getElem?).symm.trans f
  unfold results
  rw [hr]
  simp [e,asAddr,run_loadVar_mid w b 0 ty cs d hc hu hd hi]
end Go.Proofs.YtmcpjkcggfmcmaaGreatDoor
namespace Go.Proofs.YtmcpjkcggfmcmaaGreatDoor
def Fr (n:Nat) (E:Nat→Value):Act:=⟨((List.range n).map E).toArray,[]⟩
def Jj (E:Nat→Value) (d:Nat) (v:Value):Nat→Value:=fun t=>if t=d then v else E t
def Bc (E:Nat→Value):Option Tmp→Value→Nat→Value
 | some d,v=>Jj E d v
 | none,_=>E
theorem JQ (n t:Nat):(List.range n)[t]?=if t < n then some t else none:=by
 by_cases h:t < n
 ·rw [if_pos h,List.getElem?_range h]
 ·rw [if_neg h,List.getElem?_eq_none (by simpa using h)]
theorem M8 (n:Nat) (E:Nat→Value) (t:Nat):(Fr n E).tmps[t]?=if t < n then some (E t) else none:=by
 unfold Fr
 rw [List.getElem?_toArray,List.getElem?_map,JQ]
 split <;> rfl
theorem Qr (n:Nat) (E:Nat→Value):(Fr n E).tmps.size=n:=by simp [Fr]
theorem mz {a b:Act} (h:∀ t:Nat,a.tmps[t]?=b.tmps[t]?) (hd:a.defers=b.defers):a=b:=by
 cases a; cases b
 simp only at hd
 subst hd
 congr
 exact Array.ext_getElem? h
theorem Dy (n:Nat) (E:Nat→Value) (d:Option Tmp) (v:Value):(Fr n E).put d v=Fr n (Bc E d v):=by
 refine mz (fun t=>?_) (by rw [QV]; rfl)
 rw [Jx,M8,Qr,M8]
 cases d with
 | none=>simp [Bc]
 | some d=>
  by_cases h:d=t
  ·subst h
   by_cases hl:d < n <;> simp [Bc,Jj,hl]
  ·have:¬ t=d:=fun e=>h e.symm
   simp [Bc,Jj,h,this]
def BN (n:Nat) (E:Nat→Value):Operand→Value
 | .tmp t=>match decide (t < n) with
  | true=>E t
  | false=>undef
 | .const v=>v
 | .global g=>.pointer (some ⟨g,0,none⟩)
 | .func f=>.func (.func f) #[] #[]
theorem Cm (n:Nat) (E:Nat→Value):(Fr n E).eval=BN n E:=by
 funext x
 cases x with
 | tmp t=>
  show (Fr n E).tmps.getD t undef=_
  rw [Array.getD_eq_getD_getElem?,M8]
  unfold BN
  by_cases h:t < n <;> simp [h]
 | const v=>rfl
 | global g=>rfl
 | func f=>rfl
def Hy (n:Nat) (ops:Array Oper) (E:Nat→Value) (j:Nat):Option Bool:=
 match (ops[j]?).bind (·.dst) with
 | some t=>match BN n E (.tmp t) with
  | .bool b=>some b
  | _=>none
 | none=>none
theorem Ez (n:Nat) (ops:Array Oper) (E:Nat→Value):yielded ops (Fr n E).tmps=Hy n ops E:=by
 funext j
 unfold yielded Hy
 cases (ops[j]?).bind (·.dst) with
 | none=>rfl
 | some t=>
  simp only [Option.bind_some,M8]
  unfold BN
  by_cases h:t < n
  ·simp only [h,if_true,decide_true]
   cases E t <;> rfl
  ·simp [h,undef]
structure BI where
 id:Nat
 off:Nat
 cells:List Value
 ty:TypeId
 own:Bool
structure MS where
 sz:Nat
 mem:List BI
 hint:Nat×Nat
 eqs:List (Nat×Nat)
def one:Value→Bool
 | .agg _ | .tuple _=>false
 | _=>true
def CS {α:Type} (P:Program):Sem α→MS→Option (α×MS)
 | .pure a,s=>some (a,s)
 | .load _ a k,s=>match s.mem[s.hint.1]? with
  | some e=>match e.cells[s.hint.2]?,a.spot with
   | some v,none=>CS P (k v) { s with hint:=(s.hint.1,s.hint.2 + 1),eqs:=(a.block,e.id) :: (a.off,e.off + s.hint.2) :: s.eqs }
   | _,_=>none
  | none=>none
 | .store _ a v k,s=>match one v with
  | false=>none
  | true=>match s.mem[s.hint.1]? with
   | some e=>match e.own,a.spot,decide (s.hint.2 < e.cells.length) with
    | true,none,true=>CS P k { s with mem:=s.mem.set s.hint.1 { e with cells:=e.cells.set s.hint.2 v },hint:=(s.hint.1,s.hint.2 + 1),eqs:=(a.block,e.id) :: (a.off,e.off + s.hint.2) :: s.eqs }
    | _,_,_=>none
   | none=>none
 | .new o k,s=>match o with
  | .cells c t (0,0)=>CS P (k s.sz) { s with sz:=s.sz + 1,mem:=s.mem++[⟨s.sz,0,c.toList,t,true⟩] }
  | _=>none
 | .program k,s=>CS P (k P) s
 | .mark _ k,s=>CS P k s
 | _,_=>none
def BI.good (w:World) (e:BI):Prop:=
 e.id < w.heap.size∧(if e.own then w.heap[e.id]?=some (.cells e.cells.toArray e.ty (0,0))∧e.off=0 else w.rangeAt e.id e.off e.cells)
structure QL (w:World) (sz:Nat) (mem:List BI):Prop where
 size:w.heap.size=sz
 good:∀ e∈mem,e.good w
 apart:∀ (i j:Nat) (e e':BI),mem[i]?=some e→mem[j]?=some e'→e.own=true→i≠j→e.id≠e'.id
structure EC (O:List Nat) (B:Nat) (w w':World):Prop where
 os:w'.os=w.os
 tape:w'.tape=w.tape
 output:w'.output=w.output
 size:w.heap.size≤w'.heap.size
 block:∀ k,k < B→k∉O→w'.heap[k]?=w.heap[k]?
theorem EC.refl (O:List Nat) (B:Nat) (w:World):EC O B w w:=⟨rfl,rfl,rfl,Nat.le_refl _,fun _ _ _=>rfl⟩
theorem EC.trans {O:List Nat} {B:Nat} {u v w:World} (h:EC O B u v) (k:EC O B v w):EC O B u w:=
 ⟨k.os.trans h.os,k.tape.trans h.tape,k.output.trans h.output,Nat.le_trans h.size k.size,fun i hi ho=>(k.block i hi ho).trans (h.block i hi ho)⟩
theorem Iw (w:World) (a:Addr) (u:Value) (k:Nat) (h:k≠a.block):(w.setCell a u).heap[k]?=w.heap[k]?:=heap_setCell_other w a k u h
theorem D8 (w:World) (o:Obj) (k:Nat) (h:k < w.heap.size):(w.alloc o).heap[k]?=w.heap[k]?:=Array.getElem?_push_lt h |>.trans (Array.getElem?_eq_getElem h).symm
theorem Fl {w:World} {e:BI} {a:Addr} {j:Nat} {v:Value} (h:e.good w) (hv:e.cells[j]?=some v) (c:a.block=e.id) (h2:a.off=e.off + j) (b:a.spot=none):w.cell? a=some v:=by
 obtain ⟨blk,off,spot⟩:=a
 simp only at c h2 b
 subst c h2 b
 obtain ⟨_,hg⟩:=h
 split at hg
 ·obtain ⟨hb,d⟩:=hg
  unfold World.cell?
  simp only [hb,d]
  simpa using hv
 ·exact hg j v hv
theorem Qa {w:World} {e:BI} {a:Addr} (h:e.good w) (ho:e.own=true) (b:a.block=e.id):w.frozen? a=false:=by
 obtain ⟨_,hg⟩:=h
 rw [if_pos ho] at hg
 unfold World.frozen?
 rw [b,hg.1]
 simp
theorem MF {w:World} {a:Addr} {v:Value} {C:List Value} {T:TypeId} (h:w.heap[a.block]?=some (.cells C.toArray T (0,0))) (hs:a.spot=none):(w.setCell a v).heap[a.block]?=some (.cells (C.set a.off v).toArray T (0,0)):=by
 unfold World.setCell
 simp [Array.getElem?_modify,h,hs]
theorem iT {w:World} {e:BI} {a:Addr} {v:Value} (h:e.good w) (b:e.id≠a.block):e.good (w.setCell a v):=by
 have hb:(w.setCell a v).heap[e.id]?=w.heap[e.id]?:=Iw _ _ _ _ b
 obtain ⟨d,hg⟩:=h
 refine ⟨by simpa [World.setCell] using d,?_⟩
 split at hg
 ·rename_i ho; rw [if_pos ho,hb]; exact hg
 ·rename_i ho
  rw [if_neg ho]
  intro j x c
  rw [World.cell?_of_block (w:=w) hb]
  exact hg j x c
theorem ZF {w:World} {e:BI} (h:e.good w) (o:Obj):e.good (w.alloc o):=by
 have hb:(w.alloc o).heap[e.id]?=w.heap[e.id]?:=D8 _ _ _ h.1
 obtain ⟨b,hg⟩:=h
 refine ⟨by simp; omega,?_⟩
 split at hg
 ·rename_i ho; rw [if_pos ho,hb]; exact hg
 ·rename_i ho
  rw [if_neg ho]
  intro j x a
  rw [World.cell?_of_block (w:=w) hb]
  exact hg j x a
theorem iU (w:World) (c:List Value) (t:TypeId):(⟨w.heap.size,0,c,t,true⟩:BI).good (w.alloc (.cells c.toArray t (0,0))):=by
 refine ⟨by simp,?_⟩
 rw [if_pos rfl]
 exact ⟨heap_alloc_new _ _,rfl⟩
theorem Lt {α:Type} {P:Program}:∀ (s:Sem α) (m b:MS) (a:α),CS P s m=some (a,b)→∀ p∈m.eqs,p∈b.eqs:=by
 intro s
 induction s with
 | pure a=>intro m b x h p d; simp only [CS,Option.some.injEq,Prod.mk.injEq] at h; rw [← h.2]; exact d
 | load md a k ih=>
  intro m b x h p d
  unfold CS at h
  split at h
  ·split at h
   ·exact ih _ _ _ _ h p (by simp [d])
   ·cases h
  ·cases h
 | store md a v k ih=>
  intro m b x h p d
  unfold CS at h
  split at h
  ·cases h
  ·split at h
   ·split at h
    ·exact ih _ _ _ h p (by simp [d])
    ·cases h
   ·cases h
 | new o k ih=>
  intro m b x h p d
  unfold CS at h
  split at h
  ·exact ih _ _ _ _ h p d
  ·cases h
 | program k ih=>intro m b x h p d; unfold CS at h; exact ih _ _ _ _ h p d
 | mark mk k ih=>intro m b x h p d; unfold CS at h; exact ih _ _ _ h p d
 | shape r k ih=>intro m b x h; unfold CS at h; cases h
 | freeze a n k ih=>intro m b x h; unfold CS at h; cases h
 | frozen a k ih=>intro m b x h; unfold CS at h; cases h
 | getObj r k ih=>intro m b x h; unfold CS at h; cases h
 | setObj r o k ih=>intro m b x h; unfold CS at h; cases h
 | choose q k ih=>intro m b x h; unfold CS at h; cases h
 | sys c k ih=>intro m b x h; unfold CS at h; cases h
 | halt hh=>intro m b x h; unfold CS at h; cases h
theorem QL.set {w:World} {sz:Nat} {mem:List BI} (h:QL w sz mem) {i j:Nat} {e:BI} (hi:mem[i]?=some e) (ho:e.own=true) {a:Addr} {v:Value} (n:a.block=e.id) (h2:a.off=e.off + j) (h3:a.spot=none) :
  QL (w.setCell a v) sz (mem.set i { e with cells:=e.cells.set j v }):=by
 have f:i < mem.length:=(List.getElem?_eq_some_iff.1 hi).1
 have hg:=h.good e (List.mem_of_getElem? hi)
 have b:=hg.2
 rw [if_pos ho] at b
 refine ⟨by simpa [World.setCell] using h.size,?_,?_⟩
 ·intro e' m
  obtain ⟨k,d⟩:=List.mem_iff_getElem?.1 m
  rw [List.getElem?_set] at d
  by_cases hik:i=k
  ·subst hik
   rw [if_pos rfl,if_pos f] at d
   ·obtain rfl:=Option.some.inj d
    refine ⟨by simpa [World.setCell] using hg.1,?_⟩
    rw [if_pos (show ({ e with cells:=e.cells.set j v }:BI).own=true from ho)]
    refine ⟨?_,b.2⟩
    have:=MF (v:=v) (a:=a) (by rw [n]; exact b.1) h3
    rw [n] at this
    rw [h2,b.2,Nat.zero_add] at this
    exact this
  ·have c:=hik
   rw [if_neg hik] at d
   refine iT (h.good e' (List.mem_of_getElem? d)) ?_
   rw [n]
   exact fun e0=>h.apart i k e e' hi d ho c e0.symm
 ·intro p q x y u t s c
  have hid:∀ (k:Nat) (z:BI),(mem.set i { e with cells:=e.cells.set j v })[k]?=some z→∃ z',mem[k]?=some z'∧z'.id=z.id∧z'.own=z.own:=by
   intro k z hz
   rw [List.getElem?_set] at hz
   by_cases hik:i=k
   ·subst hik
    rw [if_pos rfl,if_pos f] at hz
    obtain rfl:=Option.some.inj hz
    exact ⟨e,hi,rfl,rfl⟩
   ·rw [if_neg hik] at hz
    exact ⟨z,hz,rfl,rfl⟩
  obtain ⟨r,l,ex,eo⟩:=hid p x u
  obtain ⟨o,g,ey,_⟩:=hid q y t
  rw [← ex,← ey]
  exact h.apart p q r o l g (eo.trans s) c
theorem QL.new {w:World} {sz:Nat} {mem:List BI} (h:QL w sz mem) (c:List Value) (t:TypeId):QL (w.alloc (.cells c.toArray t (0,0))) (sz + 1) (mem++[⟨sz,0,c,t,true⟩]):=by
 have hz:=h.size
 subst hz
 refine ⟨by simp,?_,?_⟩
 ·intro e he
  rw [List.mem_append,List.mem_singleton] at he
  rcases he with he | rfl
  ·exact ZF (h.good e he) _
  ·exact iU w c t
 ·intro i j e e' hi f ho a
  have key:∀ (k:Nat) (z:BI),(mem++[(⟨w.heap.size,0,c,t,true⟩:BI)])[k]?=some z→(mem[k]?=some z∧z.id < w.heap.size)∨(k=mem.length∧z.id=w.heap.size):=by
   intro k z hz
   rw [List.getElem?_append] at hz
   split at hz
   ·exact .inl ⟨hz,(h.good z (List.mem_of_getElem? hz)).1⟩
   ·rename_i hk
    cases hkk:k - mem.length with
    | zero=>
     rw [hkk] at hz
     simp at hz
     subst hz
     exact .inr ⟨by omega,rfl⟩
    | succ n=>rw [hkk] at hz; simp at hz
  rcases key i e hi with ⟨d,a2⟩ | ⟨d,a2⟩ <;> rcases key j e' f with ⟨b,g⟩ | ⟨b,g⟩
  ·exact h.apart i j e e' d b ho a
  ·omega
  ·omega
  ·omega
theorem bN {α:Type} {P:Program} {md:Mode} {a:Addr} {v u:Value} {k:Sem α} {w:World} (hv:one v=true) (hc:w.cell? a=some u) (hf:w.frozen? a=false):(Sem.store md a v k).run P w=k.run P (w.setCell a v):=by
 cases v <;> first | (cases hv; done) | simp [Sem.run,hc,hf]
theorem Jt {α:Type} {P:Program} {O:List Nat} {B:Nat}:∀ (s:Sem α) (m b:MS) (a:α) (w:World),CS P s m=some (a,b)→QL w m.sz m.mem→B≤w.heap.size→(∀ e∈m.mem,e.own=true→e.id∈O∨B≤e.id)→(∀ p∈b.eqs,p.1=p.2)→
  ∃ w',s.run P w=.ok a w'∧QL w' b.sz b.mem∧EC O B w w'∧(∀ e∈b.mem,e.own=true→e.id∈O∨B≤e.id):=by
 intro s
 induction s with
 | pure a=>
  intro m b x w h d j f he
  simp only [CS,Option.some.injEq,Prod.mk.injEq] at h
  obtain ⟨rfl,rfl⟩:=h
  exact ⟨w,rfl,d,.refl _ _ _,f⟩
 | load md a k ih=>
  intro m b x w h d j f he
  unfold CS at h
  split at h
  ·rename_i e hm
   split at h
   ·rename_i v hv hsp
    have hq:=Lt _ _ _ _ h
    have e1:=he _ (hq (a.block,e.id) (by simp))
    have e2:=he _ (hq (a.off,e.off + m.hint.2) (by simp))
    obtain ⟨w',l,h2,h3,h4⟩:=ih v _ _ _ w h d j f he
    refine ⟨w',?_,h2,h3,h4⟩
    unfold Sem.run
    rw [Fl (d.good e (List.mem_of_getElem? hm)) hv e1 e2 hsp]
    exact l
   ·cases h
  ·cases h
 | store md a v k ih=>
  intro m b x w h d j f he
  unfold CS at h
  split at h
  ·cases h
  ·rename_i hone
   split at h
   ·rename_i e hm
    split at h
    ·rename_i ho hsp hlt
     have hq:=Lt _ _ _ _ h
     have e1:=he _ (hq (a.block,e.id) (by simp))
     have e2:=he _ (hq (a.off,e.off + m.hint.2) (by simp))
     simp only at e1 e2
     have hl:m.hint.2 < e.cells.length:=by simpa using hlt
     have y:=d.set hm ho (v:=v) e1 e2 hsp
     have hg:=d.good e (List.mem_of_getElem? hm)
     have hc:=Fl hg (List.getElem?_eq_getElem hl) e1 e2 hsp
     have hf:=Qa hg ho e1
     have a0:(w.setCell a v).heap.size=w.heap.size:=by simp [World.setCell]
     obtain ⟨w',l,h2,h3,h4⟩:=ih _ _ _ (w.setCell a v) h y (by rw [a0]; exact j) (fun z hz u=>by
      obtain ⟨k,hk⟩:=List.mem_iff_getElem?.1 hz
      rw [List.getElem?_set] at hk
      by_cases g:m.hint.1=k
      ·rw [if_pos g,if_pos (List.getElem?_eq_some_iff.1 hm).1] at hk
       obtain rfl:=Option.some.inj hk
       exact f e (List.mem_of_getElem? hm) ho
      ·rw [if_neg g] at hk
       exact f z (List.mem_of_getElem? hk) u) he
     refine ⟨w',?_,h2,EC.trans (v:=w.setCell a v) ⟨rfl,rfl,rfl,Nat.le_of_eq a0.symm,fun i hi b0=>?_⟩ h3,h4⟩
     ·rw [bN hone hc hf]; exact l
     ·refine Iw _ _ _ _ (fun g=>?_)
      rw [e1] at g
      rcases f e (List.mem_of_getElem? hm) ho with h5 | h5
      ·exact b0 (g ▸ h5)
      ·omega
    ·cases h
   ·cases h
 | new o k ih=>
  intro m b x w h d j f he
  unfold CS at h
  split at h
  ·rename_i c t
   have y:=d.new c.toList t
   obtain ⟨w',l,h2,h3,h4⟩:=ih _ _ _ _ (w.alloc (.cells c.toList.toArray t (0,0))) h y (by simp; omega) (fun z hz u=>by
    rw [List.mem_append,List.mem_singleton] at hz
    rcases hz with hz | rfl
    ·exact f z hz u
    ·right; rw [← d.size]; exact j) he
   refine ⟨w',?_,h2,EC.trans (v:=w.alloc (.cells c.toList.toArray t (0,0))) ⟨rfl,rfl,rfl,by simp,fun i hi _=>D8 _ _ _ (by omega)⟩ h3,h4⟩
   rw [← l,← d.size]
   rfl
  ·cases h
 | program k ih=>
  intro m b x w h d j f he
  unfold CS at h
  obtain ⟨w',l,h2⟩:=ih _ _ _ _ w h d j f he
  exact ⟨w',l,h2⟩
 | mark mk k ih=>
  intro m b x w h d j f he
  unfold CS at h
  obtain ⟨w',l,h2⟩:=ih _ _ _ w h d j f he
  exact ⟨w',l,h2⟩
 | shape r k ih=>intro m b x w h; unfold CS at h; cases h
 | freeze a n k ih=>intro m b x w h; unfold CS at h; cases h
 | frozen a k ih=>intro m b x w h; unfold CS at h; cases h
 | getObj r k ih=>intro m b x w h; unfold CS at h; cases h
 | setObj r o k ih=>intro m b x w h; unfold CS at h; cases h
 | choose q k ih=>intro m b x w h; unfold CS at h; cases h
 | sys c k ih=>intro m b x w h; unfold CS at h; cases h
 | halt hh=>intro m b x w h; unfold CS at h; cases h
end Go.Proofs.YtmcpjkcggfmcmaaGreatDoor

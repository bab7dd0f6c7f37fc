/- Contracts of functions, part 1. -/
import Derived.Test.YtkjbdagicjbjjaaGreatTs00
import Derived.Laws.Cells
import Derived.Laws.AppendOwn
import Derived.KernelRfl
set_option linter.all false
namespace Go.Proofs.YtkjbdagicjbjjaaGreat
def Fr (n:Nat) (E:Nat→Value):Act:=⟨((List.range n).map E).toArray,[]⟩
def Jq (E:Nat→Value) (d:Nat) (v:Value):Nat→Value:=fun t=>if t=d then v else E t
def Aw (E:Nat→Value):Option Tmp→Value→Nat→Value
 | some d,v=>Jq E d v
 | none,_=>E
theorem JX (n t:Nat):(List.range n)[t]?=if t < n then some t else none:=by
 by_cases h:t < n
 ·rw [if_pos h,List.getElem?_range h]
 rw [if_neg h,List.getElem?_eq_none (by simpa using h)]
theorem LC (n:Nat) (E:Nat→Value) (t:Nat):(Fr n E).tmps[t]?=if t < n then some (E t) else none:=by
 unfold Fr
 rw [List.getElem?_toArray,List.getElem?_map,JX]
 split <;> rfl
theorem Sa (n:Nat) (E:Nat→Value):(Fr n E).tmps.size=n:=by simp [Fr]
theorem wh {a a':Act} (h:∀ t:Nat,a.tmps[t]?=a'.tmps[t]?) (hd:a.defers=a'.defers):a=a':=by
 cases a; cases a'
 simp only at hd
 subst hd
 congr
 exact Array.ext_getElem? h
theorem El (n:Nat) (E:Nat→Value) (d:Option Tmp) (v:Value):(Fr n E).put d v=Fr n (Aw E d v):=by
 refine wh (fun t=>?_) (by rw [R3]; rfl)
 rw [KD,LC,Sa,LC]
 cases d with
 | none=>simp [Aw]
 | some d=>
  by_cases h:d=t
  ·subst h
   by_cases hl:d < n <;> simp [Aw,Jq,hl]
  have:¬ t=d:=fun e=>h e.symm
  simp [Aw,Jq,h,this]
def A8 (n:Nat) (E:Nat→Value):Operand→Value
 | .tmp t=>match decide (t < n) with
  | true=>E t
  | false=>undef
 | .const v=>v
 | .global g=>.pointer (some ⟨g,0,none⟩)
 | .func f=>.func (.func f) #[] #[]
theorem D7 (n:Nat) (E:Nat→Value):(Fr n E).eval=A8 n E:=by
 funext x
 cases x with
 | tmp t=>
  show (Fr n E).tmps.getD t undef=_
  rw [Array.getD_eq_getD_getElem?,LC]
  unfold A8
  by_cases h:t < n <;> simp [h]
 | const v=>rfl
 | global g=>rfl
 | func f=>rfl
def H7 (n:Nat) (ops:Array Oper) (E:Nat→Value) (j:Nat):Option Bool:=
 match (ops[j]?).bind (·.dst) with
 | some t=>match A8 n E (.tmp t) with
  | .bool b=>some b
  | _=>none
 | none=>none
theorem F1 (n:Nat) (ops:Array Oper) (E:Nat→Value):yielded ops (Fr n E).tmps=H7 n ops E:=by
 funext j
 unfold yielded H7
 cases (ops[j]?).bind (·.dst) with
 | none=>rfl
 | some t=>
  simp only [Option.bind_some,LC]
  unfold A8
  by_cases h:t < n
  ·simp only [h,if_true,decide_true]
   cases E t <;> rfl
  simp [h,undef]
structure A7 where
 id:Nat
 off:Nat
 cells:List Value
 ty:TypeId
 own:Bool
structure MS where
 sz:Nat
 mem:List A7
 hint:Nat×Nat
 eqs:List (Nat×Nat)
def one:Value→Bool
 | .agg _ | .tuple _=>false
 | _=>true
def Cd {α:Type} (P:Program):Sem α→MS→Option (α×MS)
 | .pure a,s=>some (a,s)
 | .load _ a k,s=>match s.mem[s.hint.1]? with
  | some e=>match e.cells[s.hint.2]?,a.spot with
   | some v,none=>Cd P (k v) { s with hint:=(s.hint.1,s.hint.2 + 1),eqs:=(a.block,e.id) :: (a.off,e.off + s.hint.2) :: s.eqs }
   | _,_=>none
  | none=>none
 | .store _ a v k,s=>match one v with
  | false=>none
  | true=>match s.mem[s.hint.1]? with
   | some e=>match e.own,a.spot,decide (s.hint.2 < e.cells.length) with
    | true,none,true=>Cd P k { s with mem:=s.mem.set s.hint.1 { e with cells:=e.cells.set s.hint.2 v },hint:=(s.hint.1,s.hint.2 + 1),eqs:=(a.block,e.id) :: (a.off,e.off + s.hint.2) :: s.eqs }
    | _,_,_=>none
   | none=>none
 | .new o k,s=>match o with
  | .cells c t (0,0)=>Cd P (k s.sz) { s with sz:=s.sz + 1,mem:=s.mem++[⟨s.sz,0,c.toList,t,true⟩] }
  | _=>none
 | .program k,s=>Cd P (k P) s
 | .mark _ k,s=>Cd P k s
 | _,_=>none
def A7.good (w:World) (e:A7):Prop:=
 e.id < w.heap.size∧(if e.own then w.heap[e.id]?=some (.cells e.cells.toArray e.ty (0,0))∧e.off=0 else w.rangeAt e.id e.off e.cells)
structure Rm (w:World) (sz:Nat) (mem:List A7):Prop where
 size:w.heap.size=sz
 good:∀ e∈mem,e.good w
 apart:∀ (i j:Nat) (e e':A7),mem[i]?=some e→mem[j]?=some e'→e.own=true→i≠j→e.id≠e'.id
structure FH (O:List Nat) (B:Nat) (w w':World):Prop where
 os:w'.os=w.os
 tape:w'.tape=w.tape
 output:w'.output=w.output
 size:w.heap.size≤w'.heap.size
 block:∀ k,k < B→k∉O→w'.heap[k]?=w.heap[k]?
theorem FH.refl (O:List Nat) (B:Nat) (w:World):FH O B w w:=⟨rfl,rfl,rfl,Nat.le_refl _,fun _ _ _=>rfl⟩
theorem FH.trans {O:List Nat} {B:Nat} {u v w:World} (h:FH O B u v) (k:FH O B v w):FH O B u w:=
 ⟨k.os.trans h.os,k.tape.trans h.tape,k.output.trans h.output,Nat.le_trans h.size k.size,fun i hi ho=>(k.block i hi ho).trans (h.block i hi ho)⟩
theorem I0 (w:World) (a:Addr) (u:Value) (k:Nat) (h:k≠a.block):(w.setCell a u).heap[k]?=w.heap[k]?:=heap_setCell_other w a k u h
theorem GX (w:World) (o:Obj) (k:Nat) (h:k < w.heap.size):(w.alloc o).heap[k]?=w.heap[k]?:=Array.getElem?_push_lt h |>.trans (Array.getElem?_eq_getElem h).symm
theorem Ec {w:World} {e:A7} {a:Addr} {j:Nat} {v:Value} (h:e.good w) (hv:e.cells[j]?=some v) (h1:a.block=e.id) (h2:a.off=e.off + j) (h3:a.spot=none):w.cell? a=some v:=by
 obtain ⟨blk,off,spot⟩:=a
 simp only at h1 h2 h3
 subst h1 h2 h3
 obtain ⟨_,hg⟩:=h
 split at hg
 ·obtain ⟨hb,h0⟩:=hg
  unfold World.cell?
  simp only [hb,h0]
  simpa using hv
 exact hg j v hv
theorem SA {w:World} {e:A7} {a:Addr} (h:e.good w) (ho:e.own=true) (h1:a.block=e.id):w.frozen? a=false:=by
 obtain ⟨_,hg⟩:=h
 rw [if_pos ho] at hg
 unfold World.frozen?
 rw [h1,hg.1]
 simp
theorem TP {w:World} {a:Addr} {v:Value} {C:List Value} {T:TypeId} (h:w.heap[a.block]?=some (.cells C.toArray T (0,0))) (hs:a.spot=none):(w.setCell a v).heap[a.block]?=some (.cells (C.set a.off v).toArray T (0,0)):=by
 unfold World.setCell
 simp [Array.getElem?_modify,h,hs]
theorem qG {w:World} {e:A7} {a:Addr} {v:Value} (h:e.good w) (hne:e.id≠a.block):e.good (w.setCell a v):=by
 have hb:(w.setCell a v).heap[e.id]?=w.heap[e.id]?:=I0 _ _ _ _ hne
 obtain ⟨h0,hg⟩:=h
 refine ⟨by simpa [World.setCell] using h0,?_⟩
 split at hg
 ·rename_i ho; rw [if_pos ho,hb]; exact hg
 rename_i ho
 rw [if_neg ho]
 intro j x hx
 rw [World.cell?_of_block (w:=w) hb]
 exact hg j x hx
theorem gR {w:World} {e:A7} (h:e.good w) (o:Obj):e.good (w.alloc o):=by
 have hb:(w.alloc o).heap[e.id]?=w.heap[e.id]?:=GX _ _ _ h.1
 obtain ⟨h0,hg⟩:=h
 refine ⟨by simp; omega,?_⟩
 split at hg
 ·rename_i ho; rw [if_pos ho,hb]; exact hg
 rename_i ho
 rw [if_neg ho]
 intro j x hx
 rw [World.cell?_of_block (w:=w) hb]
 exact hg j x hx
theorem qH (w:World) (c:List Value) (t:TypeId):(⟨w.heap.size,0,c,t,true⟩:A7).good (w.alloc (.cells c.toArray t (0,0))):=by
 refine ⟨by simp,?_⟩
 rw [if_pos rfl]
 exact ⟨heap_alloc_new _ _,rfl⟩
theorem Me {α:Type} {P:Program}:∀ (s:Sem α) (m m':MS) (a:α),Cd P s m=some (a,m')→∀ p∈m.eqs,p∈m'.eqs:=by
 intro s
 induction s with
 | pure a=>intro m m' x h p hp; simp only [Cd,Option.some.injEq,Prod.mk.injEq] at h; rw [← h.2]; exact hp
 | load md a k ih=>
  intro m m' x h p hp
  unfold Cd at h
  split at h
  ·split at h
   ·exact ih _ _ _ _ h p (by simp [hp])
   cases h
  cases h
 | store md a v k ih=>
  intro m m' x h p hp
  unfold Cd at h
  split at h
  ·cases h
  split at h
  ·split at h
   ·exact ih _ _ _ h p (by simp [hp])
   cases h
  cases h
 | new o k ih=>
  intro m m' x h p hp
  unfold Cd at h
  split at h
  ·exact ih _ _ _ _ h p hp
  cases h
 | program k ih=>intro m m' x h p hp; unfold Cd at h; exact ih _ _ _ _ h p hp
 | mark mk k ih=>intro m m' x h p hp; unfold Cd at h; exact ih _ _ _ h p hp
 | shape r k ih=>intro m m' x h; unfold Cd at h; cases h
 | freeze a n k ih=>intro m m' x h; unfold Cd at h; cases h
 | frozen a k ih=>intro m m' x h; unfold Cd at h; cases h
 | getObj r k ih=>intro m m' x h; unfold Cd at h; cases h
 | setObj r o k ih=>intro m m' x h; unfold Cd at h; cases h
 | choose q k ih=>intro m m' x h; unfold Cd at h; cases h
 | sys c k ih=>intro m m' x h; unfold Cd at h; cases h
 | halt hh=>intro m m' x h; unfold Cd at h; cases h
theorem Rm.set {w:World} {sz:Nat} {mem:List A7} (h:Rm w sz mem) {i j:Nat} {e:A7} (hi:mem[i]?=some e) (ho:e.own=true) {a:Addr} {v:Value} (h1:a.block=e.id) (h2:a.off=e.off + j) (h3:a.spot=none) :
  Rm (w.setCell a v) sz (mem.set i { e with cells:=e.cells.set j v }):=by
 have hil:i < mem.length:=(List.getElem?_eq_some_iff.1 hi).1
 have hg:=h.good e (List.mem_of_getElem? hi)
 have hg2:=hg.2
 rw [if_pos ho] at hg2
 refine ⟨by simpa [World.setCell] using h.size,?_,?_⟩
 ·intro e' he'
  obtain ⟨k,hk⟩:=List.mem_iff_getElem?.1 he'
  rw [List.getElem?_set] at hk
  by_cases hik:i=k
  ·subst hik
   rw [if_pos rfl,if_pos hil] at hk
   obtain rfl:=Option.some.inj hk
   refine ⟨by simpa [World.setCell] using hg.1,?_⟩
   rw [if_pos (show ({ e with cells:=e.cells.set j v }:A7).own=true from ho)]
   refine ⟨?_,hg2.2⟩
   have:=TP (v:=v) (a:=a) (by rw [h1]; exact hg2.1) h3
   rw [h1] at this
   rw [h2,hg2.2,Nat.zero_add] at this
   exact this
  have hne:=hik
  rw [if_neg hik] at hk
  refine qG (h.good e' (List.mem_of_getElem? hk)) ?_
  rw [h1]
  exact fun e0=>h.apart i k e e' hi hk ho hne e0.symm
 intro p q x y hp hq hx hne
 have hid:∀ (k:Nat) (z:A7),(mem.set i { e with cells:=e.cells.set j v })[k]?=some z→∃ z',mem[k]?=some z'∧z'.id=z.id∧z'.own=z.own:=by
  intro k z hz
  rw [List.getElem?_set] at hz
  by_cases hik:i=k
  ·subst hik
   rw [if_pos rfl,if_pos hil] at hz
   obtain rfl:=Option.some.inj hz
   exact ⟨e,hi,rfl,rfl⟩
  rw [if_neg hik] at hz
  exact ⟨z,hz,rfl,rfl⟩
 obtain ⟨x',hx',ex,eo⟩:=hid p x hp
 obtain ⟨y',hy',ey,_⟩:=hid q y hq
 rw [← ex,← ey]
 exact h.apart p q x' y' hx' hy' (eo.trans hx) hne
theorem Rm.new {w:World} {sz:Nat} {mem:List A7} (h:Rm w sz mem) (c:List Value) (t:TypeId):Rm (w.alloc (.cells c.toArray t (0,0))) (sz + 1) (mem++[⟨sz,0,c,t,true⟩]):=by
 have hz:=h.size
 subst hz
 refine ⟨by simp,?_,?_⟩
 ·intro e he
  rw [List.mem_append,List.mem_singleton] at he
  rcases he with he | rfl
  ·exact gR (h.good e he) _
  exact qH w c t
 intro i j e e' hi hj ho hne
 have key:∀ (k:Nat) (z:A7),(mem++[(⟨w.heap.size,0,c,t,true⟩:A7)])[k]?=some z→(mem[k]?=some z∧z.id < w.heap.size)∨(k=mem.length∧z.id=w.heap.size):=by
  intro k z hz
  rw [List.getElem?_append] at hz
  split at hz
  ·exact .inl ⟨hz,(h.good z (List.mem_of_getElem? hz)).1⟩
  rename_i hk
  cases hkk:k - mem.length with
  | zero=>
   rw [hkk] at hz
   simp at hz
   subst hz
   exact .inr ⟨by omega,rfl⟩
  | succ n=>rw [hkk] at hz; simp at hz
 rcases key i e hi with ⟨a1,a2⟩ | ⟨a1,a2⟩ <;> rcases key j e' hj with ⟨b1,b2⟩ | ⟨b1,b2⟩
 ·exact h.apart i j e e' a1 b1 ho hne
 ·omega
 ·omega
 omega
theorem lr {α:Type} {P:Program} {md:Mode} {a:Addr} {v u:Value} {k:Sem α} {w:World} (hv:one v=true) (hc:w.cell? a=some u) (hf:w.frozen? a=false):(Sem.store md a v k).run P w=k.run P (w.setCell a v):=by
 cases v <;> first | (cases hv; done) | simp [Sem.run,hc,hf]
theorem Jx {α:Type} {P:Program} {O:List Nat} {B:Nat}:∀ (s:Sem α) (m m':MS) (a:α) (w:World),Cd P s m=some (a,m')→Rm w m.sz m.mem→B≤w.heap.size→(∀ e∈m.mem,e.own=true→e.id∈O∨B≤e.id)→(∀ p∈m'.eqs,p.1=p.2)→
  ∃ w',s.run P w=.ok a w'∧Rm w' m'.sz m'.mem∧FH O B w w'∧(∀ e∈m'.mem,e.own=true→e.id∈O∨B≤e.id):=by
 intro s
 induction s with
 | pure a=>
  intro m m' x w h hS hB hO he
  simp only [Cd,Option.some.injEq,Prod.mk.injEq] at h
  obtain ⟨rfl,rfl⟩:=h
  exact ⟨w,rfl,hS,.refl _ _ _,hO⟩
 | load md a k ih=>
  intro m m' x w h hS hB hO he
  unfold Cd at h
  split at h
  ·rename_i e hm
   split at h
   ·rename_i v hv hsp
    have hq:=Me _ _ _ _ h
    have e1:=he _ (hq (a.block,e.id) (by simp))
    have e2:=he _ (hq (a.off,e.off + m.hint.2) (by simp))
    obtain ⟨w',h1,h2,h3,h4⟩:=ih v _ _ _ w h hS hB hO he
    refine ⟨w',?_,h2,h3,h4⟩
    unfold Sem.run
    rw [Ec (hS.good e (List.mem_of_getElem? hm)) hv e1 e2 hsp]
    exact h1
   cases h
  cases h
 | store md a v k ih=>
  intro m m' x w h hS hB hO he
  unfold Cd at h
  split at h
  ·cases h
  rename_i hone
  split at h
  ·rename_i e hm
   split at h
   ·rename_i ho hsp hlt
    have hq:=Me _ _ _ _ h
    have e1:=he _ (hq (a.block,e.id) (by simp))
    have e2:=he _ (hq (a.off,e.off + m.hint.2) (by simp))
    simp only at e1 e2
    have hl:m.hint.2 < e.cells.length:=by simpa using hlt
    have hS':=hS.set hm ho (v:=v) e1 e2 hsp
    have hg:=hS.good e (List.mem_of_getElem? hm)
    have hc:=Ec hg (List.getElem?_eq_getElem hl) e1 e2 hsp
    have hf:=SA hg ho e1
    have hsz:(w.setCell a v).heap.size=w.heap.size:=by simp [World.setCell]
    obtain ⟨w',h1,h2,h3,h4⟩:=ih _ _ _ (w.setCell a v) h hS' (by rw [hsz]; exact hB) (fun z hz hzo=>by
     obtain ⟨k,hk⟩:=List.mem_iff_getElem?.1 hz
     rw [List.getElem?_set] at hk
     by_cases hik:m.hint.1=k
     ·rw [if_pos hik,if_pos (List.getElem?_eq_some_iff.1 hm).1] at hk
      obtain rfl:=Option.some.inj hk
      exact hO e (List.mem_of_getElem? hm) ho
     rw [if_neg hik] at hk
     exact hO z (List.mem_of_getElem? hk) hzo) he
    refine ⟨w',?_,h2,FH.trans (v:=w.setCell a v) ⟨rfl,rfl,rfl,Nat.le_of_eq hsz.symm,fun i hi hno=>?_⟩ h3,h4⟩
    ·rw [lr hone hc hf]; exact h1
    refine I0 _ _ _ _ (fun hik=>?_)
    rw [e1] at hik
    rcases hO e (List.mem_of_getElem? hm) ho with h5 | h5
    ·exact hno (hik ▸ h5)
    omega
   cases h
  cases h
 | new o k ih=>
  intro m m' x w h hS hB hO he
  unfold Cd at h
  split at h
  ·rename_i c t
   have hS':=hS.new c.toList t
   obtain ⟨w',h1,h2,h3,h4⟩:=ih _ _ _ _ (w.alloc (.cells c.toList.toArray t (0,0))) h hS' (by simp; omega) (fun z hz hzo=>by
    rw [List.mem_append,List.mem_singleton] at hz
    rcases hz with hz | rfl
    ·exact hO z hz hzo
    right; rw [← hS.size]; exact hB) he
   refine ⟨w',?_,h2,FH.trans (v:=w.alloc (.cells c.toList.toArray t (0,0))) ⟨rfl,rfl,rfl,by simp,fun i hi _=>GX _ _ _ (by omega)⟩ h3,h4⟩
   rw [← h1,← hS.size]
   rfl
  cases h
 | program k ih=>
  intro m m' x w h hS hB hO he
  unfold Cd at h
  obtain ⟨w',h1,h2⟩:=ih _ _ _ _ w h hS hB hO he
  exact ⟨w',h1,h2⟩
 | mark mk k ih=>
  intro m m' x w h hS hB hO he
  unfold Cd at h
  obtain ⟨w',h1,h2⟩:=ih _ _ _ w h hS hB hO he
  exact ⟨w',h1,h2⟩
 | shape r k ih=>intro m m' x w h; unfold Cd at h; cases h
 | freeze a n k ih=>intro m m' x w h; unfold Cd at h; cases h
 | frozen a k ih=>intro m m' x w h; unfold Cd at h; cases h
 | getObj r k ih=>intro m m' x w h; unfold Cd at h; cases h
 | setObj r o k ih=>intro m m' x w h; unfold Cd at h; cases h
 | choose q k ih=>intro m m' x w h; unfold Cd at h; cases h
 | sys c k ih=>intro m m' x w h; unfold Cd at h; cases h
 | halt hh=>intro m m' x w h; unfold Cd at h; cases h
abbrev ι (i:Nat) (cs:List Value) (t:TypeId):A7:=⟨i,0,cs,t,true⟩
def base (f:FuncId):Frame:={ (default:Frame) with fn:=f,kind:=.normal }
def H1 (P:Program) (f:FuncId) (R:Ending→World→Prop) (todo:List Item) (a:Act) (w:World):Prop:=
 ∀ cs,∃ e w' fr,R e w'∧Comes P (lone ((base f).at a todo) cs w) (lone fr cs w') e∧fr.fn=f∧fr.leaving P w' e
section
variable {P:Program} {f:FuncId} {R:Ending→World→Prop}
theorem H1.steps {todo todo':List Item} {a c:Act} {w w':World} (hs:∀ b,Steps P (lone ((base f).at a todo) b w) (lone ((base f).at c todo') b w')) (h:H1 P f R todo' c w'):H1 P f R todo a w:=
 fun b=>let ⟨e,u,fr,h1,h2,h3⟩:=h b; ⟨e,u,fr,h1,Comes.of_steps (hs b) h2,h3⟩
theorem mM {c:Code} {k:List Item} {a:Act} {w:World} (h:c.wp P (fun e g w'=>e=.normal∧H1 P f R k g w') a w):H1 P f R (.code c :: k) a w:=by
 intro d
 obtain ⟨e,g,w',⟨rfl,hm⟩,b⟩:=h (base f) k d
 obtain ⟨e,u,fr,j,h2,i⟩:=hm d
 exact ⟨e,u,fr,j,Comes.of_steps b h2,i⟩
theorem wN {ops:Array Oper} {l:List Nat} {k:List Item} {a:Act} {w:World} (h:wpOps P ops (fun e d w'=>e=.normal∧H1 P f R k d w') l a w):H1 P f R (.inRegion ops l :: k) a w:=by
 intro c
 obtain ⟨e,d,w',⟨rfl,hm⟩,b⟩:=wp_ops l a w h (base f) k c
 obtain ⟨e,u,fr,i,h2,g⟩:=hm c
 exact ⟨e,u,fr,i,Comes.of_steps b h2,g⟩
theorem ny {fn:Func} {c:Code} {args:List Value} {w:World} (hf:P.funcs[f]?=some fn) (hb:fn.body=some c)
  (h:H1 P f R [.code c] (Fr fn.ntmps (fun t=>args.getD t undef)) w) (hn:args.length≤fn.ntmps):Calls P f args.toArray w R:=by
 intro d
 have a:Frame.enter P f args.toArray .normal=(base f).at (Fr fn.ntmps (fun t=>args.getD t undef)) [.code c]:=by
  have e:(args.toArray++Array.replicate (fn.ntmps - args.toArray.size) undef)=(Fr fn.ntmps (fun t=>args.getD t undef)).tmps:=by
   refine Array.ext_getElem? fun t=>?_
   rw [LC,Array.getElem?_append,Array.getElem?_replicate]
   simp only [List.size_toArray,List.getElem?_toArray]
   by_cases h1:t < args.length
   ·have h2:t < fn.ntmps:=by omega
    simp [h1,h2,List.getD_eq_getElem?_getD]
   by_cases h2:t < fn.ntmps
   ·have b:t - args.length < fn.ntmps - args.length:=by omega
    simp [h1,h2,b,List.getD_eq_getElem?_getD]
   have b:¬ t - args.length < fn.ntmps - args.length:=by omega
   simp [h1,h2,b]
  simp [Frame.enter,Frame.at,hf,hb,base]
  exact ⟨by simpa using e,rfl⟩
 rw [a]
 exact h d
def At (P:Program) (f:FuncId) (R:Ending→World→Prop):List Item→Act→World→Prop
 | .inRegion ops l :: k,a,w=>wpOps P ops (fun e a w=>e=.normal∧H1 P f R k a w) l a w
 | todo,a,w=>H1 P f R todo a w
theorem At.mid {todo:List Item} {a:Act} {w:World} (h:At P f R todo a w):H1 P f R todo a w:=by
 cases todo with
 | nil=>exact h
 | cons x k=>cases x <;> first | exact wN h | exact h
theorem n5 {todo:List Item} {a:Act} {w:World} (h:H1 P f R todo a w) (hn:∀ ops l k,todo≠.inRegion ops l :: k):At P f R todo a w:=by
 cases todo with
 | nil=>exact h
 | cons x k=>cases x <;> first | exact (hn _ _ _ rfl).elim | exact h
structure St where
 todo:List Item
 env:Nat→Value
 ms:MS
 hs:List (Nat×Nat)
def vO:Op→Bool
 | .call ⟨.builtin .len,_,_⟩ | .call ⟨.builtin .cap,_,_⟩ | .call ⟨.builtin .min,_,_⟩ | .call ⟨.builtin .max,_,_⟩=>false
 | .call _ | .select .. | .go _ | .defer _ | .panic _ | .send .. | .recv .. | .range .. | .next .. | .entry _ | .mapUpdate .. | .lookup .. | .index ..=>true
 | _=>false
def AEi:Op→Bool
 | .load .. | .store ..=>true
 | _=>false
def R1 (P:Program) (n:Nat) (o:Oper) (E:Nat→Value) (todo:List Item) (ms:MS) (hs:List (Nat×Nat)):Option St:=
 match Cd P (execOp (A8 n E) o) ms with
 | some (.value v,ms')=>some ⟨todo,Aw E o.dst v,ms',hs⟩
 | some (.skip,ms')=>some ⟨todo,Aw E o.dst undef,ms',hs⟩
 | _=>none
def Sw (P:Program) (n:Nat) (ops:Array Oper) (i:Nat) (s:St) (todo:List Item):Option St:=
 match ops[i]? with
 | none=>none
 | some o=>match Region.wanted o (H7 n ops s.env) with
  | false=>some { s with todo:=todo,env:=Aw s.env o.dst undef }
  | true=>match vO o.op with
   | true=>none
   | false=>match AEi o.op with
    | true=>match s.hs with
     | h :: hs=>R1 P n o s.env todo { s.ms with hint:=h } hs
     | []=>none
    | false=>R1 P n o s.env todo s.ms s.hs
def ON (P:Program) (n:Nat) (s:St):Option St:=
 match s.todo with
 | .code .skip :: k=>some { s with todo:=k }
 | .code (.label _) :: k=>some { s with todo:=k }
 | .inBlock _ :: k=>some { s with todo:=k }
 | .code (.seq x y) :: k=>some { s with todo:=.code x :: .code y :: k }
 | .code (.block id c) :: k=>some { s with todo:=.code c :: .inBlock id :: k }
 | .code (.exit id) :: k=>match exitTo id k with
  | some k'=>some { s with todo:=k' }
  | none=>none
 | .code (.region _ ops false) :: k=>some { s with todo:=.inRegion ops (List.range ops.size) :: k }
 | .inRegion _ [] :: k=>some { s with todo:=k }
 | .inRegion ops (i :: r) :: k=>Sw P n ops i s (.inRegion ops r :: k)
 | _=>none
def H0 (P:Program) (n:Nat):Nat→St→St
 | 0,s=>s
 | m + 1,s=>match ON P n s with
  | some s'=>H0 P n m s'
  | none=>s
theorem Wp {n:Nat} {o:Oper} {E:Nat→Value} {todo:List Item} {ms:MS} {hs:List (Nat×Nat)} {s':St} (h:R1 P n o E todo ms hs=some s'):∀ p∈ms.eqs,p∈s'.ms.eqs:=by
 unfold R1 at h
 split at h
 ·rename_i v ms' hr; obtain rfl:=Option.some.inj h; exact Me _ _ _ _ hr
 ·rename_i ms' hr; obtain rfl:=Option.some.inj h; exact Me _ _ _ _ hr
 cases h
theorem Y8 {n:Nat} {ops:Array Oper} {i:Nat} {s s':St} {todo:List Item} (h:Sw P n ops i s todo=some s'):∀ p∈s.ms.eqs,p∈s'.ms.eqs:=by
 unfold Sw at h
 split at h
 ·cases h
 split at h
 ·obtain rfl:=Option.some.inj h; exact fun p a=>a
 split at h
 ·cases h
 split at h
 ·split at h
  ·exact fun p a=>Wp h p a
  cases h
 exact Wp h
theorem Sh {n:Nat} {s s':St} (h:ON P n s=some s'):∀ p∈s.ms.eqs,p∈s'.ms.eqs:=by
 unfold ON at h
 split at h
 case h_9=>exact Y8 h
 case h_6=>
  split at h
  ·obtain rfl:=Option.some.inj h; exact fun p a=>a
  cases h
 case h_10=>cases h
 all_goals (obtain rfl:=Option.some.inj h; exact fun p a=>a)
theorem aR {n:Nat}:∀ (m:Nat) (s:St),∀ p∈s.ms.eqs,p∈(H0 P n m s).ms.eqs
 | 0,_,p,hp=>hp
 | m + 1,s,p,hp=>by
  unfold H0
  split
  ·rename_i s' hs; exact aR m s' p (Sh hs p hp)
  exact hp
structure EU (O:List Nat) (B:Nat) (w:World) (s:MS):Prop where
 sat:Rm w s.sz s.mem
 le:B≤(ε w)
 own:∀ e∈s.mem,e.own=true→e.id∈O∨B≤e.id
theorem Gi {ops:Array Oper} {Q:Exit→Act→World→Prop} {i:Nat} {b:List Nat} {a:Act} {w:World} {o:Oper} (ho:ops[i]?=some o) (c:Region.wanted o (yielded ops a.tmps)=true) (h:o.wp P a w (wpOps P ops Q b) Q):wpOps P ops Q (i :: b) a w:=by
 unfold wpOps
 simp only [ho,c,if_true]
 exact .inl h
theorem Sb {ops:Array Oper} {Q:Exit→Act→World→Prop} {i:Nat} {b:List Nat} {a:Act} {w:World} {o:Oper} (ho:ops[i]?=some o) (c:Region.wanted o (yielded ops a.tmps)=false) (h:wpOps P ops Q b (a.put o.dst undef) w):wpOps P ops Q (i :: b) a w:=by
 unfold wpOps
 simp only [ho,c,Bool.false_eq_true,if_false]
 exact h
theorem Qv {O:List Nat} {B n:Nat} {ops:Array Oper} {i:Nat} {r:List Nat} {k:List Item} {o:Oper} {E:Nat→Value} {ms:MS} {hs:List (Nat×Nat)} {s':St} {w:World} (ho:ops[i]?=some o) (g:Region.wanted o (H7 n ops E)=true)
  (h:R1 P n o E (.inRegion ops r :: k) ms hs=some s') (a:EU O B w ms) (he:∀ p∈s'.ms.eqs,p.1=p.2)
  (e:∀ w',EU O B w' s'.ms→FH O B w w'→At P f R s'.todo (Fr n s'.env) w'):At P f R (.inRegion ops (i :: r) :: k) (Fr n E) w:=by
 refine Gi ho (by rw [F1]; exact g) ?_
 unfold Oper.wp
 rw [D7]
 unfold R1 at h
 split at h
 ·rename_i v ms' hr
  obtain rfl:=Option.some.inj h
  obtain ⟨w',d,h2,b,c⟩:=Jx _ _ _ _ w hr a.sat a.le a.own he
  rw [d]
  show wpOps P ops _ r ((Fr n E).put o.dst v) w'
  rw [El]
  exact e w' ⟨h2,Nat.le_trans a.le b.size,c⟩ b
 ·rename_i ms' hr
  obtain rfl:=Option.some.inj h
  obtain ⟨w',d,h2,b,c⟩:=Jx _ _ _ _ w hr a.sat a.le a.own he
  rw [d]
  show wpOps P ops _ r ((Fr n E).put o.dst undef) w'
  rw [El]
  exact e w' ⟨h2,Nat.le_trans a.le b.size,c⟩ b
 cases h
theorem Sv {O:List Nat} {B n:Nat} {ops:Array Oper} {i:Nat} {r:List Nat} {k:List Item} {s s':St} {w:World}
  (h:Sw P n ops i s (.inRegion ops r :: k)=some s') (a:EU O B w s.ms) (he:∀ p∈s'.ms.eqs,p.1=p.2)
  (b:∀ w',EU O B w' s'.ms→FH O B w w'→At P f R s'.todo (Fr n s'.env) w'):At P f R (.inRegion ops (i :: r) :: k) (Fr n s.env) w:=by
 unfold Sw at h
 split at h
 ·cases h
 rename_i o ho
 split at h
 ·rename_i hw
  obtain rfl:=Option.some.inj h
  refine Sb ho (by rw [F1]; exact hw) ?_
  rw [El]
  exact b w a (.refl _ _ _)
 rename_i hw
 split at h
 ·cases h
 split at h
 ·split at h
  ·exact Qv ho hw h ⟨a.sat,a.le,a.own⟩ he b
  cases h
 exact Qv ho hw h a he b
theorem Dq {todo todo':List Item} {a:Act} {w:World} (hn:∀ ops l k,todo≠.inRegion ops l :: k) (hs:∀ b,step P (lone ((base f).at a todo) b w)=.next (lone ((base f).at a todo') b w)) (h:At P f R todo' a w):At P f R todo a w:=
 n5 (H1.steps (fun b=>.one (hs b)) h.mid) hn
theorem Oo {O:List Nat} {B n:Nat} {s s':St} {w:World}
  (h:ON P n s=some s') (b:EU O B w s.ms) (he:∀ p∈s'.ms.eqs,p.1=p.2)
  (a:∀ w',EU O B w' s'.ms→FH O B w w'→At P f R s'.todo (Fr n s'.env) w'):At P f R s.todo (Fr n s.env) w:=by
 unfold ON at h
 split at h
 case h_1 hc=>obtain rfl:=Option.some.inj h; rw [hc]; exact Dq (by simp) (fun _=>step_skip) (a w b (.refl _ _ _))
 case h_2 hc=>obtain rfl:=Option.some.inj h; rw [hc]; exact Dq (by simp) (fun _=>step_label) (a w b (.refl _ _ _))
 case h_3 hc=>obtain rfl:=Option.some.inj h; rw [hc]; exact Dq (by simp) (fun _=>step_inBlock) (a w b (.refl _ _ _))
 case h_4 hc=>obtain rfl:=Option.some.inj h; rw [hc]; exact Dq (by simp) (fun _=>step_seq) (a w b (.refl _ _ _))
 case h_5 hc=>obtain rfl:=Option.some.inj h; rw [hc]; exact Dq (by simp) (fun _=>step_block) (a w b (.refl _ _ _))
 case h_6 hc=>
  split at h
  ·rename_i k' hx
   obtain rfl:=Option.some.inj h; rw [hc]; exact Dq (by simp) (fun _=>step_exit hx) (a w b (.refl _ _ _))
  cases h
 case h_7 hc=>obtain rfl:=Option.some.inj h; rw [hc]; exact Dq (by simp) (fun _=>step_region) (a w b (.refl _ _ _))
 case h_8 hc=>
  obtain rfl:=Option.some.inj h; rw [hc]
  exact ⟨rfl,(a w b (.refl _ _ _)).mid⟩
 case h_9 hc=>rw [hc]; exact Sv h b he a
 case h_10=>cases h
theorem Rj {O:List Nat} {B n:Nat}:∀ (m:Nat) (s:St) (w:World),EU O B w s.ms→(∀ p∈(H0 P n m s).ms.eqs,p.1=p.2)→
  (∀ w',EU O B w' (H0 P n m s).ms→FH O B w w'→At P f R (H0 P n m s).todo (Fr n (H0 P n m s).env) w')→At P f R s.todo (Fr n s.env) w
 | 0,s,w,hL,_,hk=>hk w hL (.refl _ _ _)
 | m + 1,s,w,hL,he,hk=>by
  unfold H0 at he hk
  split at he
  ·rename_i s' hs
   simp only [hs] at hk
   refine Oo hs hL (fun p e=>he p (aR m s' p e)) fun w' c g=>?_
   exact Rj m s' w' c he fun b a d=>hk b a (g.trans d)
  rename_i hs
  simp only [hs] at hk
  exact hk w hL (.refl _ _ _)
end
section
variable {P:Program} {f:FuncId} {R:Ending→World→Prop}
theorem YA {O:List Nat} {B n:Nat} (m:Nat) (s:St) {w:World} (d:EU O B w s.ms) (he:(H0 P n m s).ms.eqs.map Prod.fst=(H0 P n m s).ms.eqs.map Prod.snd)
  (c:∀ w',EU O B w' (H0 P n m s).ms→FH O B w w'→At P f R (H0 P n m s).todo (Fr n (H0 P n m s).env) w'):At P f R s.todo (Fr n s.env) w:=by
 refine Rj m s w d (fun p b=>?_) c
 obtain ⟨i,hi⟩:=List.mem_iff_getElem?.1 b
 have a:((H0 P n m s).ms.eqs.map Prod.fst)[i]?=some p.1:=by rw [List.getElem?_map,hi]; rfl
 have h2:((H0 P n m s).ms.eqs.map Prod.snd)[i]?=some p.2:=by rw [List.getElem?_map,hi]; rfl
 rw [he,h2] at a
 exact (Option.some.inj a).symm
def BE (E:Nat→Value):List (Nat×Value)→Nat→Value
 | []=>E
 | p :: l=>Jq (BE E l) p.1 p.2
theorem NN {E:Nat→Value}:∀ {l:List (Nat×Value)},l.map (fun p=>E p.1)=l.map (·.2)→BE E l=E
 | [],_=>rfl
 | p :: l,h=>by
  rw [List.map_cons,List.map_cons,List.cons.injEq] at h
  unfold BE
  rw [NN h.2]
  funext t
  unfold Jq
  split
  ·rename_i ht; rw [ht]; exact h.1.symm
  rfl
theorem Py {n:Nat} {todo:List Item} {E:Nat→Value} {w:World} (l:List (Nat×Value)) (h:l.map (fun p=>E p.1)=l.map (·.2)) (a:∀ E',At P f R todo (Fr n (BE E' l)) w):At P f R todo (Fr n E) w:=by
 have:=a E
 rw [NN h] at this
 exact this
theorem Of {n:Nat} {todo todo':List Item} {E:Nat→Value} {w:World} (h:todo=todo') (a:At P f R todo' (Fr n E) w):At P f R todo (Fr n E) w:=h ▸ a
def AC:List Item→List Item
 | .inRegion ops (_ :: r) :: k=>.inRegion ops r :: k
 | t=>t
def JD (n:Nat) (E:Nat→Value):List Item→Option (FuncId×List Operand×Option Tmp)
 | .inRegion ops (i :: _) :: _=>match ops[i]? with
  | some o=>match Region.wanted o (H7 n ops E) with
   | true=>match o.op with
    | .call ⟨.value (.func g),xs,_⟩=>some (g,xs.toList,o.dst)
    | _=>none
   | false=>none
  | none=>none
 | _=>none
def DX (P:Program) (g:FuncId):Bool:=match P.funcs[g]? with
 | some fn=>fn.body.isSome && !(fn.name == "runtime.NumGoroutine")
 | none=>false
theorem CV {g:FuncId} (args:Array Value) (w:World) (h:DX P g=true:=by kernel_rfl):(callFunc g args).run P w=.ok (.enter g args) w:=by
 unfold DX at h
 split at h
 ·rename_i fn hf
  rw [Bool.and_eq_true] at h
  obtain ⟨h1,h2⟩:=h
  have h3:(fn.name == "runtime.NumGoroutine")=false:=by simpa using h2
  have h4:fn.body.isNone=false:=by cases hb:fn.body <;> simp [hb] at h1 ⊢
  obtain ⟨X,e⟩:∃ X:Sem Next,(callFunc g args).run P w=(if fn.name == "runtime.NumGoroutine" then (pure .numGoroutine:Sem Next) else if fn.body.isNone then X else pure (.enter g args)).run P w:=by
   apply Exists.intro
   unfold callFunc
   rw [Sem.run_bind]
   simp only [program,Sem.run,Result.andThen_ok,hf]
   rfl
  rw [e,h3,h4]
  rfl
 cases h
theorem L9 {n:Nat} {todo:List Item} {E:Nat→Value} {w:World} (g:FuncId) (xs:List Operand) (dst:Option Tmp) (args:List Value) (hc:JD n E todo=some (g,xs,dst)) (ha:xs.map (A8 n E)=args) (hg:DX P g=true)
  (h:Calls P g args.toArray w fun e w'=>∃ v,e=.returned v∧At P f R (AC todo) (Fr n (Aw E dst v)) w'):At P f R todo (Fr n E) w:=by
 unfold JD at hc
 split at hc
 ·rename_i ops i r k
  split at hc
  ·rename_i o ho
   split at hc
   ·rename_i hw
    split at hc
    ·rename_i g' xs' ats hop
     simp only [Option.some.injEq,Prod.mk.injEq] at hc
     obtain ⟨rfl,rfl,rfl⟩:=hc
     refine Gi ho (by rw [F1]; exact hw) ?_
     unfold Oper.wp
     rw [D7]
     have e:(execOp (A8 n E) o).run P w=.ok (.enter g' args.toArray) w:=by
      rw [← CV (h:=hg) args.toArray w,← ha]
      obtain ⟨d,op,ty,c,p,l⟩:=o
      simp only at hop
      subst hop
      unfold execOp resolve
      have a:xs'.toList.map (A8 n E)=(xs'.map (A8 n E)).toList:=by simp
      simp only [a,Array.toArray_toList]
      show ((Deferred.ofValue (.func (.func g') #[] #[]) (xs'.map (A8 n E))).bind fun d=>invoke d.target d.args).run P w=_
      unfold Deferred.ofValue
      simp [invoke,pure,Sem.bind]
     rw [e]
     refine h.mono fun m w' j=>?_
     obtain ⟨v,rfl,b⟩:=j
     show wpOps P ops _ r ((Fr n E).put o.dst v) w'
     rw [El]
     exact b
    cases hc
   cases hc
  cases hc
 cases hc
def SG:List Item→Option Operand
 | .code (.cond c _ _) :: _=>some c
 | _=>none
def AD:List Item→List Item
 | .code (.cond _ x _) :: k=>.code x :: k
 | t=>t
def AF:List Item→List Item
 | .code (.cond _ _ y) :: k=>.code y :: k
 | t=>t
theorem Du {n:Nat} {todo:List Item} {E:Nat→Value} {w:World} (t:Bool) (a:t=true→At P f R (AD todo) (Fr n E) w) (h2:t=false→At P f R (AF todo) (Fr n E) w) (hc:(SG todo).map (A8 n E)=some (ξ t):=by kernel_rfl):At P f R todo (Fr n E) w:=by
 unfold SG at hc
 split at hc
 ·rename_i c x y k
  have hv:(Fr n E).eval c=ξ t:=by rw [D7]; simpa using hc
  cases t with
  | true=>exact Dq (by simp) (fun _=>step_cond hv) (a rfl)
  | false=>exact Dq (by simp) (fun _=>step_cond hv) (h2 rfl)
 cases hc
def RK:List Item→Bool
 | .code (.loop _) :: _=>true
 | _=>false
def Ar:List Item→List Item
 | .code (.loop c) :: k=>.code c :: .inLoop c :: k
 | t=>t
def AZ:List Item→List Item
 | .code (.loop c) :: k=>.inLoop c :: k
 | t=>t
theorem Bo {n:Nat} {todo:List Item} {E:Nat→Value} {w:World} (hl:RK todo=true) (I:(Nat→Value)→World→Prop) (μ:(Nat→Value)→World→Nat) (g:I E w)
  (round:∀ E w,I E w→(∀ a w',I a w'→μ a w' < μ E w→At P f R (AZ todo) (Fr n a) w')→At P f R (Ar todo) (Fr n E) w):At P f R todo (Fr n E) w:=by
 unfold RK at hl
 split at hl
 ·rename_i c k
  have key:∀ (m:Nat) (E:Nat→Value) (w:World),μ E w=m→I E w→At P f R (.code c :: .inLoop c :: k) (Fr n E) w:=by
   intro m
   induction m using Nat.strongRecOn with
   | _ m ih=>
    intro E w hm e
    refine round E w e fun a w' d b=>?_
    exact Dq (by simp [AZ]) (fun _=>step_inLoop) (ih _ (hm ▸ b) a w' rfl d)
  exact Dq (by simp) (fun _=>step_loop) (key _ E w rfl g)
 cases hl
def Dh {α:Type} (P:Program):Sem α→MS→Option (α×MS)
 | .pure a,s=>some (a,s)
 | .load _ a k,s=>match s.mem[s.hint.1]? with
  | some e=>match e.cells[s.hint.2]?,a.spot with
   | some v,none=>Dh P (k v) { s with hint:=(s.hint.1,s.hint.2 + 1),eqs:=(a.block,e.id) :: (a.off,e.off + s.hint.2) :: s.eqs }
   | _,_=>none
  | none=>none
 | .program k,s=>Dh P (k P) s
 | .mark _ k,s=>Dh P k s
 | _,_=>none
theorem p8 {α:Type}:∀ (s:Sem α) (m b:MS) (a:α),Dh P s m=some (a,b)→∀ p∈m.eqs,p∈b.eqs:=by
 intro s
 induction s with
 | pure a=>intro m b x h p c; simp only [Dh,Option.some.injEq,Prod.mk.injEq] at h; rw [← h.2]; exact c
 | load md a k ih=>
  intro m b x h p c
  unfold Dh at h
  split at h
  ·split at h
   ·exact ih _ _ _ _ h p (by simp [c])
   cases h
  cases h
 | program k ih=>intro m b x h p c; unfold Dh at h; exact ih _ _ _ _ h p c
 | mark mk k ih=>intro m b x h p c; unfold Dh at h; exact ih _ _ _ h p c
 | _=>intro m b x h; unfold Dh at h; cases h
theorem F4 {α:Type} {w:World}:∀ (s:Sem α) (m b:MS) (a:α),Dh P s m=some (a,b)→(∀ e∈m.mem,e.good w)→(∀ p∈b.eqs,p.1=p.2)→s.run P w=.ok a w:=by
 intro s
 induction s with
 | pure a=>intro m b x h c he; simp only [Dh,Option.some.injEq,Prod.mk.injEq] at h; rw [← h.1]; rfl
 | load md a k ih=>
  intro m b x h c he
  unfold Dh at h
  split at h
  ·rename_i e hm
   split at h
   ·rename_i v hv hsp
    have d:=p8 _ _ _ _ h
    have g:=he _ (d (a.block,e.id) (by simp))
    have f:=he _ (d (a.off,e.off + m.hint.2) (by simp))
    unfold Sem.run
    rw [Ec (c e (List.mem_of_getElem? hm)) hv g f hsp]
    exact ih v _ _ _ h c he
   cases h
  cases h
 | program k ih=>intro m b x h c he; unfold Dh at h; exact ih _ _ _ _ h c he
 | mark mk k ih=>intro m b x h c he; unfold Dh at h; exact ih _ _ _ h c he
 | _=>intro m b x h; unfold Dh at h; cases h
def Fj (fn:Func) (n:Nat) (E:Nat→Value):Sem Value:=do
 let vs ← fn.results.mapM fun
  | .tmp t=>pure (A8 n E (.tmp t))
  | .cell a t=>do loadVar t (← asAddr (A8 n E (.tmp a)))
 pure (if h:vs.size=1 then vs[0] else .tuple vs)
theorem fm (fn:Func) (n:Nat) (E:Nat→Value):results fn (Fr n E).tmps=Fj fn n E:=by
 unfold results Fj
 have:∀ t,(Fr n E).tmps.getD t undef=A8 n E (.tmp t):=fun t=>congrFun (D7 n E) (.tmp t)
 simp only [this]
 rfl
def RI:List Item→Bool
 | .code .ret :: _ | []=>true
 | _=>false
theorem n0 {n:Nat} {todo:List Item} {E:Nat→Value} {w:World} {fn:Func} (hr:RI todo=true) (hf:P.funcs[f]?=some fn) (m:MS) (hg:∀ e∈m.mem,e.good w) (v:Value) (hv:(Dh P (Fj fn n E) m).map (·.1)=some v)
  (he:((Dh P (Fj fn n E) m).map (·.2.eqs.map Prod.fst))=((Dh P (Fj fn n E) m).map (·.2.eqs.map Prod.snd))) (hR:R (.returned v) w):At P f R todo (Fr n E) w:=by
 cases hl:Dh P (Fj fn n E) m with
 | none=>rw [hl] at hv; cases hv
 | some p=>
  obtain ⟨b,c⟩:=p
  rw [hl] at hv he
  obtain rfl:b=v:=Option.some.inj hv
  have d:c.eqs.map Prod.fst=c.eqs.map Prod.snd:=Option.some.inj he
  have a:(results fn (Fr n E).tmps).run P w=.ok b w:=by
   rw [fm]
   refine F4 _ _ _ _ hl hg fun p h=>?_
   obtain ⟨i,hi⟩:=List.mem_iff_getElem?.1 h
   have g:(c.eqs.map Prod.fst)[i]?=some p.1:=by rw [List.getElem?_map,hi]; rfl
   have h2:(c.eqs.map Prod.snd)[i]?=some p.2:=by rw [List.getElem?_map,hi]; rfl
   rw [d,h2] at g
   exact (Option.some.inj g).symm
  unfold RI at hr
  split at hr
  ·intro j
   exact ⟨.returned b,w,_,hR,.one step_ret,rfl,rfl,rfl,rfl,fn,hf,a⟩
  ·intro j
   exact ⟨.returned b,w,_,hR,.one step_end,rfl,rfl,rfl,rfl,fn,hf,a⟩
  cases hr
def FL:List Item→Option (Array Oper)
 | .code (.region _ ops true) :: _=>some ops
 | _=>none
def AM:List Item→List Item
 | _ :: k=>k
 | []=>[]
theorem ER {n:Nat} {todo:List Item} {E:Nat→Value} {w:World} (ops:Array Oper) (m:Nat) (h:wpAny P .any ops (fun e a w=>e=.normal∧H1 P f R (AM todo) a w) m (Array.replicate m false) (Fr n E) w.drew) (hd:FL todo=some ops:=by kernel_rfl) (hm:P.follows .mixedOrders=true:=by kernel_rfl) (hs:ops.size=m:=by kernel_rfl):At P f R todo (Fr n E) w:=by
 unfold FL at hd
 split at hd
 ·rename_i id ops' k
  obtain rfl:=Option.some.inj hd
  subst hs
  exact mM (wp_region_any hm h)
 cases hd
def Lj (ops:Array Oper) (vals:Nat→Value) (A:List Nat) (E:Nat→Value):Nat→Value:=A.foldl (fun E i=>Aw E (C3 ops i) (vals i)) E
theorem XZ (ops:Array Oper) (vals:Nat→Value) (n:Nat):∀ (A:List Nat) (E:Nat→Value),fin ops vals A (Fr n E)=Fr n (Lj ops vals A E)
 | [],_=>rfl
 | i :: A,E=>by
  have:=XZ ops vals n A (Aw E (C3 ops i) (vals i))
  rw [← El] at this
  exact this
end
end Go.Proofs.YtkjbdagicjbjjaaGreat

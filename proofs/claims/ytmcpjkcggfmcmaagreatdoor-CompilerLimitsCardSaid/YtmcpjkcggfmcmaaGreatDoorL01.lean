/-
  Part 1 of a proof: contracts of functions.
-/
import Derived.Test.YtmcpjkcggfmcmaaGreatDoorL00
import Derived.Deep.MidRow
import Derived.Laws.Cells
import Derived.Laws.AppendOwn
set_option linter.all false
namespace Go.Proofs.YtmcpjkcggfmcmaaGreatDoor
def R9 (l:List (Tmp×Value)) (ρ:Operand→Value):Operand→Value
 | .tmp t=>match l.find? (fun p=>p.1 == t) with
  | some p=>p.2
  | none=>ρ (.tmp t)
 | x=>ρ x
def Gd (ρ:Operand→Value):List (Tmp×Value)→Prop
 | []=>True
 | p :: l=>ρ (.tmp p.1)=p.2∧Gd ρ l
theorem Gd.mem {ρ:Operand→Value}:∀ {l:List (Tmp×Value)},Gd ρ l→∀ p∈l,ρ (.tmp p.1)=p.2
 | [],_,p,hp=>by cases hp
 | q :: l,h,p,hp=>by
  rcases List.mem_cons.1 hp with rfl | hp2
  ·exact h.1
  ·exact Gd.mem h.2 p hp2
theorem QZ {ρ:Operand→Value} {l:List (Tmp×Value)} (h:Gd ρ l):R9 l ρ=ρ:=by
 funext x
 cases x with
 | tmp t=>
  unfold R9
  cases hf:l.find? (fun p=>p.1 == t) with
  | none=>simp only [hf]
  | some p=>
   have hm:=List.mem_of_find?_eq_some hf
   have ht:p.1=t:=by simpa using List.find?_some hf
   have:=h.mem p hm
   rw [ht] at this
   simp only [hf]
   exact this.symm
 | const v=>rfl
 | global g=>rfl
 | func f=>rfl
theorem AN.over {P:Program} {o:Oper} {ρ:Operand→Value} {w:World} {K:Value→World→Prop} (l:List (Tmp×Value)) (h:Gd ρ l) (hk:AN P o (R9 l ρ) w K):AN P o ρ w K:=by
 rw [QZ h] at hk; exact hk
def KV (vals:Nat→Value):List (Tmp×Nat×Value)→Prop
 | []=>True
 | p :: l=>vals p.2.1=p.2.2∧KV vals l
def Ar (i:Nat) (B:List Nat) (v:Value):C3:=⟨i,B,[i],fun vs _=>vs=[v]⟩
end Go.Proofs.YtmcpjkcggfmcmaaGreatDoor
namespace Go.Proofs.YtmcpjkcggfmcmaaGreatDoor
def Fr (n:Nat) (E:Nat→Value):Act:=⟨((List.range n).map E).toArray,[]⟩
def HV (E:Nat→Value) (d:Nat) (v:Value):Nat→Value:=fun t=>if t=d then v else E t
def BO (E:Nat→Value):Option Tmp→Value→Nat→Value
 | some d,v=>HV E d v
 | none,_=>E
theorem G4 (n t:Nat):(List.range n)[t]?=if t < n then some t else none:=by
 by_cases h:t < n
 ·rw [if_pos h,List.getElem?_range h]
 ·rw [if_neg h,List.getElem?_eq_none (by simpa using h)]
theorem KR (n:Nat) (E:Nat→Value) (t:Nat):(Fr n E).tmps[t]?=if t < n then some (E t) else none:=by
 unfold Fr
 rw [List.getElem?_toArray,List.getElem?_map,G4]
 split <;> rfl
theorem Sc (n:Nat) (E:Nat→Value):(Fr n E).tmps.size=n:=by simp [Fr]
theorem fK {a a':Act} (h:∀ t:Nat,a.tmps[t]?=a'.tmps[t]?) (hd:a.defers=a'.defers):a=a':=by
 cases a; cases a'
 simp only at hd
 subst hd
 congr
 exact Array.ext_getElem? h
theorem Dp (n:Nat) (E:Nat→Value) (d:Option Tmp) (v:Value):(Fr n E).put d v=Fr n (BO E d v):=by
 refine fK (fun t=>?_) (by rw [NP]; rfl)
 rw [Hk,KR,Sc,KR]
 cases d with
 | none=>simp [BO]
 | some d=>
  by_cases h:d=t
  ·subst h
   by_cases hl:d < n <;> simp [BO,HV,hl]
  ·have:¬ t=d:=fun e=>h e.symm
   simp [BO,HV,h,this]
def BJ (n:Nat) (E:Nat→Value):Operand→Value
 | .tmp t=>match decide (t < n) with
  | true=>E t
  | false=>undef
 | .const v=>v
 | .global g=>.pointer (some ⟨g,0,none⟩)
 | .func f=>.func (.func f) #[] #[]
theorem DU (n:Nat) (E:Nat→Value):(Fr n E).eval=BJ n E:=by
 funext x
 cases x with
 | tmp t=>
  show (Fr n E).tmps.getD t undef=_
  rw [Array.getD_eq_getD_getElem?,KR]
  unfold BJ
  by_cases h:t < n <;> simp [h]
 | const v=>rfl
 | global g=>rfl
 | func f=>rfl
def Fx (n:Nat) (ops:Array Oper) (E:Nat→Value) (j:Nat):Option Bool:=
 match (ops[j]?).bind (·.dst) with
 | some t=>match BJ n E (.tmp t) with
  | .bool b=>some b
  | _=>none
 | none=>none
theorem Dv (n:Nat) (ops:Array Oper) (E:Nat→Value):yielded ops (Fr n E).tmps=Fx n ops E:=by
 funext j
 unfold yielded Fx
 cases (ops[j]?).bind (·.dst) with
 | none=>rfl
 | some t=>
  simp only [Option.bind_some,KR]
  unfold BJ
  by_cases h:t < n
  ·simp only [h,if_true,decide_true]
   cases E t <;> rfl
  ·simp [h,undef]
structure BM where
 id:Nat
 off:Nat
 cells:List Value
 ty:TypeId
 own:Bool
structure MS where
 sz:Nat
 mem:List BM
 hint:Nat×Nat
 eqs:List (Nat×Nat)
def one:Value→Bool
 | .agg _ | .tuple _=>false
 | _=>true
def CB {α:Type} (P:Program):Sem α→MS→Option (α×MS)
 | .pure a,s=>some (a,s)
 | .load _ a k,s=>match s.mem[s.hint.1]? with
  | some e=>match e.cells[s.hint.2]?,a.spot with
   | some v,none=>CB P (k v) { s with hint:=(s.hint.1,s.hint.2 + 1),eqs:=(a.block,e.id) :: (a.off,e.off + s.hint.2) :: s.eqs }
   | _,_=>none
  | none=>none
 | .store _ a v k,s=>match one v with
  | false=>none
  | true=>match s.mem[s.hint.1]? with
   | some e=>match e.own,a.spot,decide (s.hint.2 < e.cells.length) with
    | true,none,true=>CB P k { s with mem:=s.mem.set s.hint.1 { e with cells:=e.cells.set s.hint.2 v },hint:=(s.hint.1,s.hint.2 + 1),eqs:=(a.block,e.id) :: (a.off,e.off + s.hint.2) :: s.eqs }
    | _,_,_=>none
   | none=>none
 | .new o k,s=>match o with
  | .cells c t (0,0)=>CB P (k s.sz) { s with sz:=s.sz + 1,mem:=s.mem++[⟨s.sz,0,c.toList,t,true⟩] }
  | _=>none
 | .program k,s=>CB P (k P) s
 | .mark _ k,s=>CB P k s
 | _,_=>none
def BM.good (w:World) (e:BM):Prop:=
 e.id < w.heap.size∧(if e.own then w.heap[e.id]?=some (.cells e.cells.toArray e.ty (0,0))∧e.off=0 else w.rangeAt e.id e.off e.cells)
structure ND (w:World) (sz:Nat) (mem:List BM):Prop where
 size:w.heap.size=sz
 good:∀ e∈mem,e.good w
 apart:∀ (i j:Nat) (e e':BM),mem[i]?=some e→mem[j]?=some e'→e.own=true→i≠j→e.id≠e'.id
structure Dh (O:List Nat) (B:Nat) (w w':World):Prop where
 os:w'.os=w.os
 tape:w'.tape=w.tape
 output:w'.output=w.output
 size:w.heap.size≤w'.heap.size
 block:∀ k,k < B→k∉O→w'.heap[k]?=w.heap[k]?
theorem Dh.refl (O:List Nat) (B:Nat) (w:World):Dh O B w w:=⟨rfl,rfl,rfl,Nat.le_refl _,fun _ _ _=>rfl⟩
theorem Dh.trans {O:List Nat} {B:Nat} {u v w:World} (h:Dh O B u v) (k:Dh O B v w):Dh O B u w:=
 ⟨k.os.trans h.os,k.tape.trans h.tape,k.output.trans h.output,Nat.le_trans h.size k.size,fun i hi ho=>(k.block i hi ho).trans (h.block i hi ho)⟩
theorem Gf (w:World) (a:Addr) (u:Value) (k:Nat) (h:k≠a.block):(w.setCell a u).heap[k]?=w.heap[k]?:=heap_setCell_other w a k u h
theorem Fp (w:World) (o:Obj) (k:Nat) (h:k < w.heap.size):(w.alloc o).heap[k]?=w.heap[k]?:=Array.getElem?_push_lt h |>.trans (Array.getElem?_eq_getElem h).symm
theorem EX {w:World} {e:BM} {a:Addr} {j:Nat} {v:Value} (h:e.good w) (hv:e.cells[j]?=some v) (h1:a.block=e.id) (h2:a.off=e.off + j) (h3:a.spot=none):w.cell? a=some v:=by
 obtain ⟨blk,off,spot⟩:=a
 simp only at h1 h2 h3
 subst h1 h2 h3
 obtain ⟨_,hg⟩:=h
 split at hg
 ·obtain ⟨hb,h0⟩:=hg
  unfold World.cell?
  simp only [hb,h0]
  simpa using hv
 ·exact hg j v hv
theorem NT {w:World} {e:BM} {a:Addr} (h:e.good w) (ho:e.own=true) (h1:a.block=e.id):w.frozen? a=false:=by
 obtain ⟨_,hg⟩:=h
 rw [if_pos ho] at hg
 unfold World.frozen?
 rw [h1,hg.1]
 simp
theorem OR {w:World} {a:Addr} {v:Value} {C:List Value} {T:TypeId} (h:w.heap[a.block]?=some (.cells C.toArray T (0,0))) (hs:a.spot=none):(w.setCell a v).heap[a.block]?=some (.cells (C.set a.off v).toArray T (0,0)):=by
 unfold World.setCell
 simp [Array.getElem?_modify,h,hs]
theorem al {w:World} {e:BM} {a:Addr} {v:Value} (h:e.good w) (hne:e.id≠a.block):e.good (w.setCell a v):=by
 have hb:(w.setCell a v).heap[e.id]?=w.heap[e.id]?:=Gf _ _ _ _ hne
 obtain ⟨h0,hg⟩:=h
 refine ⟨by simpa [World.setCell] using h0,?_⟩
 split at hg
 ·rename_i ho; rw [if_pos ho,hb]; exact hg
 ·rename_i ho
  rw [if_neg ho]
  intro j x hx
  rw [World.cell?_of_block (w:=w) hb]
  exact hg j x hx
theorem Va {w:World} {e:BM} (h:e.good w) (o:Obj):e.good (w.alloc o):=by
 have hb:(w.alloc o).heap[e.id]?=w.heap[e.id]?:=Fp _ _ _ h.1
 obtain ⟨h0,hg⟩:=h
 refine ⟨by simp; omega,?_⟩
 split at hg
 ·rename_i ho; rw [if_pos ho,hb]; exact hg
 ·rename_i ho
  rw [if_neg ho]
  intro j x hx
  rw [World.cell?_of_block (w:=w) hb]
  exact hg j x hx
theorem am (w:World) (c:List Value) (t:TypeId):(⟨w.heap.size,0,c,t,true⟩:BM).good (w.alloc (.cells c.toArray t (0,0))):=by
 refine ⟨by simp,?_⟩
 rw [if_pos rfl]
 exact ⟨heap_alloc_new _ _,rfl⟩
theorem JN {α:Type} {P:Program}:∀ (s:Sem α) (m m':MS) (a:α),CB P s m=some (a,m')→∀ p∈m.eqs,p∈m'.eqs:=by
 intro s
 induction s with
 | pure a=>intro m m' x h p hp; simp only [CB,Option.some.injEq,Prod.mk.injEq] at h; rw [← h.2]; exact hp
 | load md a k ih=>
  intro m m' x h p hp
  unfold CB at h
  split at h
  ·split at h
   ·exact ih _ _ _ _ h p (by simp [hp])
   ·cases h
  ·cases h
 | store md a v k ih=>
  intro m m' x h p hp
  unfold CB at h
  split at h
  ·cases h
  ·split at h
   ·split at h
    ·exact ih _ _ _ h p (by simp [hp])
    ·cases h
   ·cases h
 | new o k ih=>
  intro m m' x h p hp
  unfold CB at h
  split at h
  ·exact ih _ _ _ _ h p hp
  ·cases h
 | program k ih=>intro m m' x h p hp; unfold CB at h; exact ih _ _ _ _ h p hp
 | mark mk k ih=>intro m m' x h p hp; unfold CB at h; exact ih _ _ _ h p hp
 | shape r k ih=>intro m m' x h; unfold CB at h; cases h
 | freeze a n k ih=>intro m m' x h; unfold CB at h; cases h
 | frozen a k ih=>intro m m' x h; unfold CB at h; cases h
 | getObj r k ih=>intro m m' x h; unfold CB at h; cases h
 | setObj r o k ih=>intro m m' x h; unfold CB at h; cases h
 | choose q k ih=>intro m m' x h; unfold CB at h; cases h
 | sys c k ih=>intro m m' x h; unfold CB at h; cases h
 | halt hh=>intro m m' x h; unfold CB at h; cases h
theorem ND.set {w:World} {sz:Nat} {mem:List BM} (h:ND w sz mem) {i j:Nat} {e:BM} (hi:mem[i]?=some e) (ho:e.own=true) {a:Addr} {v:Value} (h1:a.block=e.id) (h2:a.off=e.off + j) (h3:a.spot=none) :
  ND (w.setCell a v) sz (mem.set i { e with cells:=e.cells.set j v }):=by
 have hil:i < mem.length:=(List.getElem?_eq_some_iff.1 hi).1
 have hg:=h.good e (List.mem_of_getElem? hi)
 have hg2:=hg.2
 rw [if_pos ho] at hg2
 refine ⟨by simpa [World.setCell] using h.size,?_,?_⟩
 ·intro e' he'
  obtain ⟨k,hk⟩:=List.mem_iff_getElem?.1 he'
  rw [List.getElem?_set] at hk
  by_cases hik:i=k
  ·subst hik
   rw [if_pos rfl,if_pos hil] at hk
   ·obtain rfl:=Option.some.inj hk
    refine ⟨by simpa [World.setCell] using hg.1,?_⟩
    rw [if_pos (show ({ e with cells:=e.cells.set j v }:BM).own=true from ho)]
    refine ⟨?_,hg2.2⟩
    have:=OR (v:=v) (a:=a) (by rw [h1]; exact hg2.1) h3
    rw [h1] at this
    rw [h2,hg2.2,Nat.zero_add] at this
    exact this
  ·have hne:=hik
   rw [if_neg hik] at hk
   refine al (h.good e' (List.mem_of_getElem? hk)) ?_
   rw [h1]
   exact fun e0=>h.apart i k e e' hi hk ho hne e0.symm
 ·intro p q x y hp hq hx hne
  have hid:∀ (k:Nat) (z:BM),(mem.set i { e with cells:=e.cells.set j v })[k]?=some z→∃ z',mem[k]?=some z'∧z'.id=z.id∧z'.own=z.own:=by
   intro k z hz
   rw [List.getElem?_set] at hz
   by_cases hik:i=k
   ·subst hik
    rw [if_pos rfl,if_pos hil] at hz
    obtain rfl:=Option.some.inj hz
    exact ⟨e,hi,rfl,rfl⟩
   ·rw [if_neg hik] at hz
    exact ⟨z,hz,rfl,rfl⟩
  obtain ⟨x',hx',ex,eo⟩:=hid p x hp
  obtain ⟨y',hy',ey,_⟩:=hid q y hq
  rw [← ex,← ey]
  exact h.apart p q x' y' hx' hy' (eo.trans hx) hne
theorem ND.new {w:World} {sz:Nat} {mem:List BM} (h:ND w sz mem) (c:List Value) (t:TypeId):ND (w.alloc (.cells c.toArray t (0,0))) (sz + 1) (mem++[⟨sz,0,c,t,true⟩]):=by
 have hz:=h.size
 subst hz
 refine ⟨by simp,?_,?_⟩
 ·intro e he
  rw [List.mem_append,List.mem_singleton] at he
  rcases he with he | rfl
  ·exact Va (h.good e he) _
  ·exact am w c t
 ·intro i j e e' hi hj ho hne
  have key:∀ (k:Nat) (z:BM),(mem++[(⟨w.heap.size,0,c,t,true⟩:BM)])[k]?=some z→(mem[k]?=some z∧z.id < w.heap.size)∨(k=mem.length∧z.id=w.heap.size):=by
   intro k z hz
   rw [List.getElem?_append] at hz
   split at hz
   ·exact .inl ⟨hz,(h.good z (List.mem_of_getElem? hz)).1⟩
   ·rename_i hk
    cases hkk:k - mem.length with
    | zero=>
     rw [hkk] at hz
     simp at hz
     subst hz
     exact .inr ⟨by omega,rfl⟩
    | succ n=>rw [hkk] at hz; simp at hz
  rcases key i e hi with ⟨a1,a2⟩ | ⟨a1,a2⟩ <;> rcases key j e' hj with ⟨b1,b2⟩ | ⟨b1,b2⟩
  ·exact h.apart i j e e' a1 b1 ho hne
  ·omega
  ·omega
  ·omega
theorem XA {α:Type} {P:Program} {md:Mode} {a:Addr} {v u:Value} {k:Sem α} {w:World} (hv:one v=true) (hc:w.cell? a=some u) (hf:w.frozen? a=false):(Sem.store md a v k).run P w=k.run P (w.setCell a v):=by
 cases v <;> first | (cases hv; done) | simp [Sem.run,hc,hf]
theorem Hd {α:Type} {P:Program} {O:List Nat} {B:Nat}:∀ (s:Sem α) (m m':MS) (a:α) (w:World),CB P s m=some (a,m')→ND w m.sz m.mem→B≤w.heap.size→(∀ e∈m.mem,e.own=true→e.id∈O∨B≤e.id)→(∀ p∈m'.eqs,p.1=p.2)→
  ∃ w',s.run P w=.ok a w'∧ND w' m'.sz m'.mem∧Dh O B w w'∧(∀ e∈m'.mem,e.own=true→e.id∈O∨B≤e.id):=by
 intro s
 induction s with
 | pure a=>
  intro m m' x w h hS hB hO he
  simp only [CB,Option.some.injEq,Prod.mk.injEq] at h
  obtain ⟨rfl,rfl⟩:=h
  exact ⟨w,rfl,hS,.refl _ _ _,hO⟩
 | load md a k ih=>
  intro m m' x w h hS hB hO he
  unfold CB at h
  split at h
  ·rename_i e hm
   split at h
   ·rename_i v hv hsp
    have hq:=JN _ _ _ _ h
    have e1:=he _ (hq (a.block,e.id) (by simp))
    have e2:=he _ (hq (a.off,e.off + m.hint.2) (by simp))
    obtain ⟨w',h1,h2,h3,h4⟩:=ih v _ _ _ w h hS hB hO he
    refine ⟨w',?_,h2,h3,h4⟩
    unfold Sem.run
    rw [EX (hS.good e (List.mem_of_getElem? hm)) hv e1 e2 hsp]
    exact h1
   ·cases h
  ·cases h
 | store md a v k ih=>
  intro m m' x w h hS hB hO he
  unfold CB at h
  split at h
  ·cases h
  ·rename_i hone
   split at h
   ·rename_i e hm
    split at h
    ·rename_i ho hsp hlt
     have hq:=JN _ _ _ _ h
     have e1:=he _ (hq (a.block,e.id) (by simp))
     have e2:=he _ (hq (a.off,e.off + m.hint.2) (by simp))
     simp only at e1 e2
     have hl:m.hint.2 < e.cells.length:=by simpa using hlt
     have hS':=hS.set hm ho (v:=v) e1 e2 hsp
     have hg:=hS.good e (List.mem_of_getElem? hm)
     have hc:=EX hg (List.getElem?_eq_getElem hl) e1 e2 hsp
     have hf:=NT hg ho e1
     have hsz:(w.setCell a v).heap.size=w.heap.size:=by simp [World.setCell]
     obtain ⟨w',h1,h2,h3,h4⟩:=ih _ _ _ (w.setCell a v) h hS' (by rw [hsz]; exact hB) (fun z hz hzo=>by
      obtain ⟨k,hk⟩:=List.mem_iff_getElem?.1 hz
      rw [List.getElem?_set] at hk
      by_cases hik:m.hint.1=k
      ·rw [if_pos hik,if_pos (List.getElem?_eq_some_iff.1 hm).1] at hk
       obtain rfl:=Option.some.inj hk
       exact hO e (List.mem_of_getElem? hm) ho
      ·rw [if_neg hik] at hk
       exact hO z (List.mem_of_getElem? hk) hzo) he
     refine ⟨w',?_,h2,Dh.trans (v:=w.setCell a v) ⟨rfl,rfl,rfl,Nat.le_of_eq hsz.symm,fun i hi hno=>?_⟩ h3,h4⟩
     ·rw [XA hone hc hf]; exact h1
     ·refine Gf _ _ _ _ (fun hik=>?_)
      rw [e1] at hik
      rcases hO e (List.mem_of_getElem? hm) ho with h5 | h5
      ·exact hno (hik ▸ h5)
      ·omega
    ·cases h
   ·cases h
 | new o k ih=>
  intro m m' x w h hS hB hO he
  unfold CB at h
  split at h
  ·rename_i c t
   have hS':=hS.new c.toList t
   obtain ⟨w',h1,h2,h3,h4⟩:=ih _ _ _ _ (w.alloc (.cells c.toList.toArray t (0,0))) h hS' (by simp; omega) (fun z hz hzo=>by
    rw [List.mem_append,List.mem_singleton] at hz
    rcases hz with hz | rfl
    ·exact hO z hz hzo
    ·right; rw [← hS.size]; exact hB) he
   refine ⟨w',?_,h2,Dh.trans (v:=w.alloc (.cells c.toList.toArray t (0,0))) ⟨rfl,rfl,rfl,by simp,fun i hi _=>Fp _ _ _ (by omega)⟩ h3,h4⟩
   rw [← h1,← hS.size]
   rfl
  ·cases h
 | program k ih=>
  intro m m' x w h hS hB hO he
  unfold CB at h
  obtain ⟨w',h1,h2⟩:=ih _ _ _ _ w h hS hB hO he
  exact ⟨w',h1,h2⟩
 | mark mk k ih=>
  intro m m' x w h hS hB hO he
  unfold CB at h
  obtain ⟨w',h1,h2⟩:=ih _ _ _ w h hS hB hO he
  exact ⟨w',h1,h2⟩
 | shape r k ih=>intro m m' x w h; unfold CB at h; cases h
 | freeze a n k ih=>intro m m' x w h; unfold CB at h; cases h
 | frozen a k ih=>intro m m' x w h; unfold CB at h; cases h
 | getObj r k ih=>intro m m' x w h; unfold CB at h; cases h
 | setObj r o k ih=>intro m m' x w h; unfold CB at h; cases h
 | choose q k ih=>intro m m' x w h; unfold CB at h; cases h
 | sys c k ih=>intro m m' x w h; unfold CB at h; cases h
 | halt hh=>intro m m' x w h; unfold CB at h; cases h
end Go.Proofs.YtmcpjkcggfmcmaaGreatDoor
namespace Go.Proofs.YtmcpjkcggfmcmaaGreatDoor
def base (f:FuncId):Frame:={ (default:Frame) with fn:=f,kind:=.normal }
def HJ (P:Program) (f:FuncId) (R:Ending→World→Prop) (todo:List Item) (a:Act) (w:World):Prop:=
 ∀ cs,∃ e w' fr,R e w'∧Comes P (lone ((base f).at a todo) cs w) (lone fr cs w') e∧fr.fn=f∧fr.leaving P w' e
section
variable {P:Program} {f:FuncId} {R:Ending→World→Prop}
theorem HJ.steps {todo todo':List Item} {a a':Act} {w w':World} (hs:∀ cs,Steps P (lone ((base f).at a todo) cs w) (lone ((base f).at a' todo') cs w')) (h:HJ P f R todo' a' w'):HJ P f R todo a w:=
 fun cs=>let ⟨e,u,fr,h1,h2,h3⟩:=h cs; ⟨e,u,fr,h1,Comes.of_steps (hs cs) h2,h3⟩
theorem XN {c:Code} {k:List Item} {a:Act} {w:World} (h:c.wp P (fun e a' w'=>e=.normal∧HJ P f R k a' w') a w):HJ P f R (.code c :: k) a w:=by
 intro cs
 obtain ⟨e,a',w',⟨rfl,hm⟩,harr⟩:=h (base f) k cs
 obtain ⟨e,u,fr,h1,h2,h3⟩:=hm cs
 exact ⟨e,u,fr,h1,Comes.of_steps harr h2,h3⟩
theorem et {ops:Array Oper} {l:List Nat} {k:List Item} {a:Act} {w:World} (h:wpOps P ops (fun e a' w'=>e=.normal∧HJ P f R k a' w') l a w):HJ P f R (.inRegion ops l :: k) a w:=by
 intro cs
 obtain ⟨e,a',w',⟨rfl,hm⟩,harr⟩:=wp_ops l a w h (base f) k cs
 obtain ⟨e,u,fr,h1,h2,h3⟩:=hm cs
 exact ⟨e,u,fr,h1,Comes.of_steps harr h2,h3⟩
theorem Ye {fn:Func} {c:Code} {args:List Value} {w:World} (hf:P.funcs[f]?=some fn) (hb:fn.body=some c)
  (h:HJ P f R [.code c] (Fr fn.ntmps (fun t=>args.getD t undef)) w) (hn:args.length≤fn.ntmps):Calls P f args.toArray w R:=by
 intro cs
 have henter:Frame.enter P f args.toArray .normal=(base f).at (Fr fn.ntmps (fun t=>args.getD t undef)) [.code c]:=by
  have e:(args.toArray++Array.replicate (fn.ntmps - args.toArray.size) undef)=(Fr fn.ntmps (fun t=>args.getD t undef)).tmps:=by
   refine Array.ext_getElem? fun t=>?_
   rw [KR,Array.getElem?_append,Array.getElem?_replicate]
   simp only [List.size_toArray,List.getElem?_toArray]
   by_cases h1:t < args.length
   ·have h2:t < fn.ntmps:=by omega
    simp [h1,h2,List.getD_eq_getElem?_getD]
   ·by_cases h2:t < fn.ntmps
    ·have h3:t - args.length < fn.ntmps - args.length:=by omega
     simp [h1,h2,h3,List.getD_eq_getElem?_getD]
    ·have h3:¬ t - args.length < fn.ntmps - args.length:=by omega
     simp [h1,h2,h3]
  simp [Frame.enter,Frame.at,hf,hb,base]
  exact ⟨by simpa using e,rfl⟩
 rw [henter]
 exact h cs
def At (P:Program) (f:FuncId) (R:Ending→World→Prop):List Item→Act→World→Prop
 | .inRegion ops l :: k,a,w=>wpOps P ops (fun e a w=>e=.normal∧HJ P f R k a w) l a w
 | todo,a,w=>HJ P f R todo a w
theorem At.mid {todo:List Item} {a:Act} {w:World} (h:At P f R todo a w):HJ P f R todo a w:=by
 cases todo with
 | nil=>exact h
 | cons x k=>cases x <;> first | exact et h | exact h
theorem Yj {todo:List Item} {a:Act} {w:World} (h:HJ P f R todo a w) (hn:∀ ops l k,todo≠.inRegion ops l :: k):At P f R todo a w:=by
 cases todo with
 | nil=>exact h
 | cons x k=>cases x <;> first | exact (hn _ _ _ rfl).elim | exact h
structure St where
 todo:List Item
 env:Nat→Value
 ms:MS
 hs:List (Nat×Nat)
def eR:Op→Bool
 | .call ⟨.builtin .len,_,_⟩ | .call ⟨.builtin .cap,_,_⟩ | .call ⟨.builtin .min,_,_⟩ | .call ⟨.builtin .max,_,_⟩=>false
 | .call _ | .select .. | .go _ | .defer _ | .panic _ | .send .. | .recv .. | .range .. | .next .. | .entry _ | .mapUpdate .. | .lookup .. | .index ..=>true
 | _=>false
def mq:Op→Bool
 | .load .. | .store ..=>true
 | _=>false
def NN (P:Program) (n:Nat) (o:Oper) (E:Nat→Value) (todo:List Item) (ms:MS) (hs:List (Nat×Nat)):Option St:=
 match CB P (execOp (BJ n E) o) ms with
 | some (.value v,ms')=>some ⟨todo,BO E o.dst v,ms',hs⟩
 | some (.skip,ms')=>some ⟨todo,BO E o.dst undef,ms',hs⟩
 | _=>none
def Ny (P:Program) (n:Nat) (ops:Array Oper) (i:Nat) (s:St) (todo:List Item):Option St:=
 match ops[i]? with
 | none=>none
 | some o=>match Region.wanted o (Fx n ops s.env) with
  | false=>some { s with todo:=todo,env:=BO s.env o.dst undef }
  | true=>match eR o.op with
   | true=>none
   | false=>match mq o.op with
    | true=>match s.hs with
     | h :: hs=>NN P n o s.env todo { s.ms with hint:=h } hs
     | []=>none
    | false=>NN P n o s.env todo s.ms s.hs
def KW (P:Program) (n:Nat) (s:St):Option St:=
 match s.todo with
 | .code .skip :: k=>some { s with todo:=k }
 | .code (.label _) :: k=>some { s with todo:=k }
 | .inBlock _ :: k=>some { s with todo:=k }
 | .code (.seq x y) :: k=>some { s with todo:=.code x :: .code y :: k }
 | .code (.block id c) :: k=>some { s with todo:=.code c :: .inBlock id :: k }
 | .code (.exit id) :: k=>match exitTo id k with
  | some k'=>some { s with todo:=k' }
  | none=>none
 | .code (.region _ ops false) :: k=>some { s with todo:=.inRegion ops (List.range ops.size) :: k }
 | .inRegion _ [] :: k=>some { s with todo:=k }
 | .inRegion ops (i :: r) :: k=>Ny P n ops i s (.inRegion ops r :: k)
 | _=>none
def Ft (P:Program) (n:Nat):Nat→St→St
 | 0,s=>s
 | m + 1,s=>match KW P n s with
  | some s'=>Ft P n m s'
  | none=>s
theorem QJ {n:Nat} {o:Oper} {E:Nat→Value} {todo:List Item} {ms:MS} {hs:List (Nat×Nat)} {s':St} (h:NN P n o E todo ms hs=some s'):∀ p∈ms.eqs,p∈s'.ms.eqs:=by
 unfold NN at h
 split at h
 ·rename_i v ms' hr; obtain rfl:=Option.some.inj h; exact JN _ _ _ _ hr
 ·rename_i ms' hr; obtain rfl:=Option.some.inj h; exact JN _ _ _ _ hr
 ·cases h
theorem SB {n:Nat} {ops:Array Oper} {i:Nat} {s s':St} {todo:List Item} (h:Ny P n ops i s todo=some s'):∀ p∈s.ms.eqs,p∈s'.ms.eqs:=by
 unfold Ny at h
 split at h
 ·cases h
 ·split at h
  ·obtain rfl:=Option.some.inj h; exact fun p hp=>hp
  ·split at h
   ·cases h
   ·split at h
    ·split at h
     ·exact fun p hp=>QJ h p hp
     ·cases h
    ·exact QJ h
theorem Nn {n:Nat} {s s':St} (h:KW P n s=some s'):∀ p∈s.ms.eqs,p∈s'.ms.eqs:=by
 unfold KW at h
 split at h
 case h_9=>exact SB h
 case h_6=>
  split at h
  ·obtain rfl:=Option.some.inj h; exact fun p hp=>hp
  ·cases h
 case h_10=>cases h
 all_goals (obtain rfl:=Option.some.inj h; exact fun p hp=>hp)
theorem Sb {n:Nat}:∀ (m:Nat) (s:St),∀ p∈s.ms.eqs,p∈(Ft P n m s).ms.eqs
 | 0,_,p,hp=>hp
 | m + 1,s,p,hp=>by
  unfold Ft
  split
  ·rename_i s' hs; exact Sb m s' p (Nn hs p hp)
  ·exact hp
structure C8 (O:List Nat) (B:Nat) (w:World) (s:MS):Prop where
 sat:ND w s.sz s.mem
 le:B≤w.heap.size
 own:∀ e∈s.mem,e.own=true→e.id∈O∨B≤e.id
theorem EE {ops:Array Oper} {Q:Exit→Act→World→Prop} {i:Nat} {rest:List Nat} {a:Act} {w:World} {o:Oper} (ho:ops[i]?=some o) (hw:Region.wanted o (yielded ops a.tmps)=true) (h:o.wp P a w (wpOps P ops Q rest) Q):wpOps P ops Q (i :: rest) a w:=by
 unfold wpOps
 simp only [ho,hw,if_true]
 exact .inl h
theorem Nm {ops:Array Oper} {Q:Exit→Act→World→Prop} {i:Nat} {rest:List Nat} {a:Act} {w:World} {o:Oper} (ho:ops[i]?=some o) (hw:Region.wanted o (yielded ops a.tmps)=false) (h:wpOps P ops Q rest (a.put o.dst undef) w):wpOps P ops Q (i :: rest) a w:=by
 unfold wpOps
 simp only [ho,hw,Bool.false_eq_true,if_false]
 exact h
theorem MR {O:List Nat} {B n:Nat} {ops:Array Oper} {i:Nat} {r:List Nat} {k:List Item} {o:Oper} {E:Nat→Value} {ms:MS} {hs:List (Nat×Nat)} {s':St} {w:World} (ho:ops[i]?=some o) (hw:Region.wanted o (Fx n ops E)=true)
  (h:NN P n o E (.inRegion ops r :: k) ms hs=some s') (hL:C8 O B w ms) (he:∀ p∈s'.ms.eqs,p.1=p.2)
  (hk:∀ w',C8 O B w' s'.ms→Dh O B w w'→At P f R s'.todo (Fr n s'.env) w'):At P f R (.inRegion ops (i :: r) :: k) (Fr n E) w:=by
 refine EE ho (by rw [Dv]; exact hw) ?_
 unfold Oper.wp
 rw [DU]
 unfold NN at h
 split at h
 ·rename_i v ms' hr
  obtain rfl:=Option.some.inj h
  obtain ⟨w',h1,h2,h3,h4⟩:=Hd _ _ _ _ w hr hL.sat hL.le hL.own he
  rw [h1]
  show wpOps P ops _ r ((Fr n E).put o.dst v) w'
  rw [Dp]
  exact hk w' ⟨h2,Nat.le_trans hL.le h3.size,h4⟩ h3
 ·rename_i ms' hr
  obtain rfl:=Option.some.inj h
  obtain ⟨w',h1,h2,h3,h4⟩:=Hd _ _ _ _ w hr hL.sat hL.le hL.own he
  rw [h1]
  show wpOps P ops _ r ((Fr n E).put o.dst undef) w'
  rw [Dp]
  exact hk w' ⟨h2,Nat.le_trans hL.le h3.size,h4⟩ h3
 ·cases h
theorem Nx {O:List Nat} {B n:Nat} {ops:Array Oper} {i:Nat} {r:List Nat} {k:List Item} {s s':St} {w:World}
  (h:Ny P n ops i s (.inRegion ops r :: k)=some s') (hL:C8 O B w s.ms) (he:∀ p∈s'.ms.eqs,p.1=p.2)
  (hk:∀ w',C8 O B w' s'.ms→Dh O B w w'→At P f R s'.todo (Fr n s'.env) w'):At P f R (.inRegion ops (i :: r) :: k) (Fr n s.env) w:=by
 unfold Ny at h
 split at h
 ·cases h
 ·rename_i o ho
  split at h
  ·rename_i hw
   obtain rfl:=Option.some.inj h
   refine Nm ho (by rw [Dv]; exact hw) ?_
   rw [Dp]
   exact hk w hL (.refl _ _ _)
  ·rename_i hw
   split at h
   ·cases h
   ·split at h
    ·split at h
     ·exact MR ho hw h ⟨hL.sat,hL.le,hL.own⟩ he hk
     ·cases h
    ·exact MR ho hw h hL he hk
theorem DD {todo todo':List Item} {a:Act} {w:World} (hn:∀ ops l k,todo≠.inRegion ops l :: k) (hs:∀ cs,step P (lone ((base f).at a todo) cs w)=.next (lone ((base f).at a todo') cs w)) (h:At P f R todo' a w):At P f R todo a w:=
 Yj (HJ.steps (fun cs=>.one (hs cs)) h.mid) hn
theorem Kz {O:List Nat} {B n:Nat} {s s':St} {w:World}
  (h:KW P n s=some s') (hL:C8 O B w s.ms) (he:∀ p∈s'.ms.eqs,p.1=p.2)
  (hk:∀ w',C8 O B w' s'.ms→Dh O B w w'→At P f R s'.todo (Fr n s'.env) w'):At P f R s.todo (Fr n s.env) w:=by
 unfold KW at h
 split at h
 case h_1 hc=>obtain rfl:=Option.some.inj h; rw [hc]; exact DD (by simp) (fun _=>step_skip) (hk w hL (.refl _ _ _))
 case h_2 hc=>obtain rfl:=Option.some.inj h; rw [hc]; exact DD (by simp) (fun _=>step_label) (hk w hL (.refl _ _ _))
 case h_3 hc=>obtain rfl:=Option.some.inj h; rw [hc]; exact DD (by simp) (fun _=>step_inBlock) (hk w hL (.refl _ _ _))
 case h_4 hc=>obtain rfl:=Option.some.inj h; rw [hc]; exact DD (by simp) (fun _=>step_seq) (hk w hL (.refl _ _ _))
 case h_5 hc=>obtain rfl:=Option.some.inj h; rw [hc]; exact DD (by simp) (fun _=>step_block) (hk w hL (.refl _ _ _))
 case h_6 hc=>
  split at h
  ·rename_i k' hx
   obtain rfl:=Option.some.inj h; rw [hc]; exact DD (by simp) (fun _=>step_exit hx) (hk w hL (.refl _ _ _))
  ·cases h
 case h_7 hc=>obtain rfl:=Option.some.inj h; rw [hc]; exact DD (by simp) (fun _=>step_region) (hk w hL (.refl _ _ _))
 case h_8 hc=>
  obtain rfl:=Option.some.inj h; rw [hc]
  exact ⟨rfl,(hk w hL (.refl _ _ _)).mid⟩
 case h_9 hc=>rw [hc]; exact Nx h hL he hk
 case h_10=>cases h
theorem M9 {O:List Nat} {B n:Nat}:∀ (m:Nat) (s:St) (w:World),C8 O B w s.ms→(∀ p∈(Ft P n m s).ms.eqs,p.1=p.2)→
  (∀ w',C8 O B w' (Ft P n m s).ms→Dh O B w w'→At P f R (Ft P n m s).todo (Fr n (Ft P n m s).env) w')→At P f R s.todo (Fr n s.env) w
 | 0,s,w,hL,_,hk=>hk w hL (.refl _ _ _)
 | m + 1,s,w,hL,he,hk=>by
  unfold Ft at he hk
  split at he
  ·rename_i s' hs
   simp only [hs] at hk
   refine Kz hs hL (fun p hp=>he p (Sb m s' p hp)) fun w' hL' hK=>?_
   exact M9 m s' w' hL' he fun w'' hL'' hK'=>hk w'' hL'' (hK.trans hK')
  ·rename_i hs
   simp only [hs] at hk
   exact hk w hL (.refl _ _ _)
end
end Go.Proofs.YtmcpjkcggfmcmaaGreatDoor

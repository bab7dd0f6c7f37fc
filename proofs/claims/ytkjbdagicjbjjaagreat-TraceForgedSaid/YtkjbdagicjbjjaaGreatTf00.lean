/-
  Part 0 of a proof: contracts of functions.
-/
import Derived.Test.YtkjbdagicjbjjaaGreatProg
import Derived.WalkKit
import Derived.WalkSpells
import Derived.WalkLawsBesides
import Derived.Outline
import Derived.Lib.Hide
import Derived.Deep.DeepFit
import Derived.Deep.QuietTactic
import Derived.BigQuiet
import Derived.Test.YtkjbdagicjbjjaaGreatRows
import Derived.ProofKit
import Derived.OpenShut
import Derived.Deep.DeepHandedRow
import Derived.Lib.LaidTab
import Derived.Stop.LaidErr
import Derived.Lib.SmallJoins
set_option linter.all false
namespace Go.Proofs.YtkjbdagicjbjjaaGreat
abbrev AI (x:Int):Value:=.int .i64 x
abbrev AT (w:World):Nat:=w.heap.size
abbrev BY (b:Nat):Value:=.pointer (some ⟨b,0,none⟩)
abbrev By (l:List UInt8):Value:=.string ⟨⟨l⟩⟩
abbrev IN (b:Nat):Option Addr:=some ⟨b,0,none⟩
end Go.Proofs.YtkjbdagicjbjjaaGreat
namespace Go.Proofs.YtkjbdagicjbjjaaGreat
namespace Tk
def isDig (c:UInt8):Bool:=decide (48≤c.toNat∧c.toNat≤57)
def isLow (c:UInt8):Bool:=decide (97≤c.toNat∧c.toNat≤122)
def isWord (c:UInt8):Bool:=isLow c || isDig c || decide (c.toNat=95)
def lead (p:UInt8→Bool):List UInt8→Nat
 | []=>0
 | c :: r=>if p c=true then lead p r + 1 else 0
theorem lead_le (p:UInt8→Bool) (l:List UInt8):lead p l≤l.length:=by
 induction l with
 | nil=>simp [lead]
 | cons c r ih=>unfold lead; split <;> simp <;> omega
theorem lead_all (p:UInt8→Bool) (l:List UInt8) (j:Nat) (a:j < lead p l) (h:j < l.length):p l[j]=true:=by
 induction l generalizing j with
 | nil=>simp at h
 | cons c r ih=>
  unfold lead at a
  split at a
  ·rename_i hc
   cases j with
   | zero=>simpa using hc
   | succ j=>simp at h ⊢; exact ih j (by omega) h
  ·omega
theorem lead_stop (p:UInt8→Bool) (l:List UInt8) (h:lead p l < l.length):p l[lead p l]=false:=by
 induction l with
 | nil=>simp at h
 | cons c r ih=>
  by_cases hc:p c=true
  ·have e:lead p (c :: r)=lead p r + 1:=by simp [lead,hc]
   simp only [e,List.length_cons] at h ⊢
   simp only [List.getElem_cons_succ]
   exact ih (by omega)
  ·have e:lead p (c :: r)=0:=by simp [lead,hc]
   simp only [e]
   simpa using hc
theorem lead_eq (p:UInt8→Bool) (l:List UInt8) (k:Nat) (a:k≤l.length) (ha:∀ j (h:j < l.length),j < k→p l[j]=true) (hs:∀ h:k < l.length,p l[k]=false):lead p l=k:=by
 have b:=lead_le p l
 rcases Nat.lt_trichotomy (lead p l) k with h | h | h
 ·have:=lead_stop p l (by omega)
  rw [ha _ _ h] at this
  cases this
 ·exact h
 ·have:=lead_all p l k h (by omega)
  rw [hs (by omega)] at this
  cases this
def digs (l:List UInt8):Nat:=lead isDig l
def keywords:List (List UInt8):=[[97,103,114,101,101,109,101,110,116],[105,110,112,117,116],[112,97,115,116],[115,99,97,108,101],[114,117,108,101],[112,97,121],[102,114,111,109],[114,111,117,110,100,101,100],[116,111],[105,102],[116,104,101,110],[101,108,115,101],[97,110,100],[111,114],[110,111,116],[116,114,117,101],[102,97,108,115,101],[109,105,110],[109,97,120],[114,111,117,110,100],[97,118,101,114,97,103,101],[108,97,115,116],[109,111,110,101,121],[104,111,117,114,115],[100,97,121,115],[110,117,109,98,101,114],[98,111,111,108],[100,111,119,110],[117,112],[102,108,111,111,114],[99,101,105,108,105,110,103],[104,97,108,102,95,117,112],[104,97,108,102,95,100,111,119,110],[104,97,108,102,95,101,118,101,110]]
def isKey (l:List UInt8):Bool:=keywords.contains l
def wordLen:List UInt8→Nat
 | []=>0
 | c :: r=>if isLow c=true then lead isWord r + 1 else 0
def isName (l:List UInt8):Bool:=decide (0 < l.length) && decide (l.length≤24) && decide (wordLen l=l.length) && !isKey l
def newR (n d:Nat):Option (Nat×Nat):=
 if n / Nat.gcd n d > 1000000000000∨d / Nat.gcd n d > 1000000 then none else some (n / Nat.gcd n d,d / Nat.gcd n d)
structure Tok where
 kind:Int:=0
 text:List UInt8:=[]
 num:Int:=0
 den:Int:=0
 day:Int:=0
 place:Int:=0
def hasFrac (l:List UInt8):Bool:=decide ((l.getD (digs l) 0).toNat=46) && isDig (l.getD (digs l + 1) 0)
def frac (l:List UInt8):Nat:=if hasFrac l=true then digs (l.drop (digs l + 1)) else 0
def numEnd (l:List UInt8):Nat:=if hasFrac l=true then digs l + (1 + frac l) else digs l
def pct (l:List UInt8):Bool:=decide ((l.getD (numEnd l) 0).toNat=37)
def most (l:List UInt8):Nat:=if pct l=true then 4 else 6
end Tk
end Go.Proofs.YtkjbdagicjbjjaaGreat
namespace Go.Proofs.YtkjbdagicjbjjaaGreat
open Go.RowKit
theorem EQ {k:IntKind} {a b:Int} (h:a=b):Ending.returned (.int k a)=.returned (.int k b):=by rw [h]
theorem Hi {a b:Bool} (h:a=b):Ending.returned (.bool a)=.returned (.bool b):=by rw [h]
theorem lQ (l:List UInt8) (k:Nat) (h:k < (⟨l.toArray⟩:ByteArray).size):(⟨l.toArray⟩:ByteArray)[k]=l[k]'h:=rfl
theorem eM (l:List UInt8) (a b:Nat):ByteArray.extract ⟨l.toArray⟩ a b=⟨((l.drop a).take (b - a)).toArray⟩:=by
 apply ByteArray.ext
 simp [List.extract_eq_take_drop,List.extract_toArray]
theorem eZ (l:List UInt8) (a:Nat):(l.drop a).take (l.length - a)=l.drop a:=List.take_of_length_le (by simp)
theorem Fi {B:Nat} {a w:World} (h:Below B a w) (n:Nat):Below B a (w.drewN n):=⟨h.os,h.tape,h.output,h.size,h.block⟩
theorem Pk {P:Program} {f:FuncId} {args:Array Value} {w:World} {n:Nat} {v:Value}
  (h:Calls P f args (w.drewN n) fun e w'=>e=.returned v∧w.drewN n=w'):Calls P f args (w.drewN n) fun e a=>e=.returned v∧∃ m,a=w.drewN m:=
 h.mono fun _ _ ⟨he,hm⟩=>⟨he,n,hm.symm⟩
end Go.Proofs.YtkjbdagicjbjjaaGreat
namespace Go.Proofs.YtkjbdagicjbjjaaGreat
open Go.RowKit
set_option maxHeartbeats 1000000 in
theorem Ql (v n:Int) (w:World) (h0:-9223372036854775808≤v) (h1:v≤9223372036854775807) (hn:1≤n) (hn2:n≤2000000000000) :
  Calls Tryz.prog 13 #[AI v,AI n] w fun e w'=>e=.returned (AI (v % n))∧w=w':=by
 have hm0:=Int.emod_nonneg v (show n≠0 by omega)
 have hm1:=Int.emod_lt_of_pos v (show 0 < n by omega)
 have gn:(n == 0)=false:=by simp; omega
 by_cases hv:0≤v
 ·go_enter Tryz.func13,Tryz.ntmps13
  go_wp2_with fail
  go_ret
  exact ⟨rfl,rfl⟩
 ·by_cases hd:n∣v
  ·have ht:v.tmod n=0:=Int.tmod_eq_zero_of_dvd hd
   have HR:Hid (v % n=0):=Int.emod_eq_zero_of_dvd hd
   clear hd
   go_enter Tryz.func13,Tryz.ntmps13
   go_wp2_with fail
   go_ret
   exact ⟨EQ HR.out.symm,rfl⟩
  ·obtain ⟨r,hr⟩:∃ r,v % n=r:=⟨_,rfl⟩
   have ht:v.tmod n=r - n:=by
    rw [Int.tmod_eq_emod,if_neg (by omega),hr]
    omega
   rw [hr] at hm0 hm1
   have HR:=Lib.hid hr
   clear hd hr
   go_enter Tryz.func13,Tryz.ntmps13
   go_wp2_with fail
   go_ret
   exact ⟨EQ (by rw [HR.out]),rfl⟩
end Go.Proofs.YtkjbdagicjbjjaaGreat
namespace Go.Proofs.YtkjbdagicjbjjaaGreat
open Go.RowKit
structure CE (b:Nat) (w w':World):Prop where
 os:w'.os=w.os
 tape:w'.tape=w.tape
 output:w'.output=w.output
 size:w.heap.size≤w'.heap.size
 block:∀ k,k < w.heap.size→k≠b→w'.heap[k]?=w.heap[k]?
theorem CE.refl (b:Nat) (w:World):CE b w w:=⟨rfl,rfl,rfl,Nat.le_refl _,fun _ _ _=>rfl⟩
theorem CE.trans {b:Nat} {u v w:World} (h:CE b u v) (k:CE b v w):CE b u w:=
 ⟨k.os.trans h.os,k.tape.trans h.tape,k.output.trans h.output,Nat.le_trans h.size k.size,fun i hi hb=>(k.block i (Nat.lt_of_lt_of_le hi h.size) hb).trans (h.block i hi hb)⟩
theorem CE.of_below {b:Nat} {w w':World} (h:Below w.heap.size w w'):CE b w w':=⟨h.os,h.tape,h.output,h.size,fun k a _=>h.block k a⟩
theorem CE.alloc {b:Nat} {u w:World} (h:CE b u w) (o:Obj):CE b u (w.alloc o):=
 h.trans (.of_below ((Below.refl _ _).alloc (Nat.le_refl _) _))
theorem CE.drew {b:Nat} {u w:World} (h:CE b u w):CE b u w.drew:=h.trans (.of_below (Below.refl _ _).drew)
theorem CE.drewN {b:Nat} {u w:World} (h:CE b u w) (n:Nat):CE b u (w.drewN n):=⟨h.os,h.tape,h.output,h.size,h.block⟩
theorem CE.setCell {b:Nat} {u w:World} (h:CE b u w) {p:Addr} (a:p.block=b) (x:Value):CE b u (w.setCell p x):=
 h.trans ⟨rfl,rfl,rfl,by simp [World.setCell],fun k _ c=>Below.heap_setCell _ _ _ _ (by rw [a]; exact c)⟩
theorem CE.below {b B:Nat} {w w':World} (h:CE b w w') (c:B≤b) (hs:B≤w.heap.size):Below B w w':=
 ⟨h.os,h.tape,h.output,h.size,fun k a=>h.block k (by omega) (by omega)⟩
theorem CE.cell {b:Nat} {w w':World} (h:CE b w w') {p:Addr} (a:p.block < w.heap.size) (hb:p.block≠b):w'.cell? p=w.cell? p:=
 World.cell?_of_block (w:=w) (h.block p.block a hb)
def G5 (w:World) (b:Nat) (v:Value) (ns:List Int):Prop:=
 ∃ A c,v=.slice A ns.length c∧ns.length≤maxLen∧(∀ x∈ns,-9223372036854775808≤x∧x≤9223372036854775807)∧
  (0 < ns.length→∃ g off,A=some ⟨g,off,none⟩∧g < b∧∀ i (h:i < ns.length),w.cell? ⟨g,off + i,none⟩=some (AI ns[i]))
def BW (b:Nat) (ns:List Int) (w:World):Prop:=
 ∃ (v:Value) (k:Nat),k≤ns.length∧w.heap[b]?=some (.cells #[v,AI k] 62 (0,0))∧G5 w b v ns
theorem LN {w:World} {b:Nat} {o:Obj} (h:w.heap[b]?=some o):b < w.heap.size:=by
 rcases Nat.lt_or_ge b w.heap.size with a | a
 ·exact a
 ·rw [Array.getElem?_eq_none a] at h; cases h
theorem BW.lt {b:Nat} {ns:List Int} {w:World} (h:BW b ns w):b < w.heap.size:=by
 obtain ⟨v,k,_,hb,_⟩:=h
 exact LN hb
theorem G5.keep {w w':World} {b:Nat} {v:Value} {ns:List Int} (h:G5 w b v ns) (a:∀ g,g < b→w'.heap[g]?=w.heap[g]?):G5 w' b v ns:=by
 obtain ⟨A,c,rfl,e,h2,d⟩:=h
 refine ⟨A,c,rfl,e,h2,fun hn=>?_⟩
 obtain ⟨g,off,rfl,hg,hc⟩:=d hn
 exact ⟨g,off,rfl,hg,fun i hi=>by rw [World.cell?_of_block (w:=w) (a g hg)]; exact hc i hi⟩
theorem BW.below {b:Nat} {ns:List Int} {w w':World} (h:BW b ns w) (hb:Below w.heap.size w w'):BW b ns w':=by
 have a:=h.lt
 obtain ⟨v,k,c,hc,hi⟩:=h
 exact ⟨v,k,c,(hb.block b a).trans hc,hi.keep (fun g hg=>hb.block g (by omega))⟩
def BQ (b:Nat) (ns:List Int) (n:Int) (w:World) (e:Ending) (w':World):Prop:=
 ∃ k:Nat,(k=0∨(k:Int) < n)∧e=.returned (AI k)∧BW b ns w'∧CE b w w'
end Go.Proofs.YtkjbdagicjbjjaaGreat
namespace Go.Proofs.YtkjbdagicjbjjaaGreat
open Go.ChangeShapes Go.WideShapes Go.ChangeAt Go.RowKit
theorem Wp:ownKnob Tryz.prog.godebug=none:=by kernel_rfl
def nP:DataW Unit→List Value
 | .lit (.int k n)=>[.int k n]
 | .lit (.string s)=>[.string ⟨s.toArray⟩]
 | .agg xs=>xs.flatMap fun
  | .lit (.int k n)=>[.int k n]
  | .lit (.string s)=>[.string ⟨s.toArray⟩]
  | .agg ys=>ys.flatMap fun
   | .lit (.int k n)=>[.int k n]
   | .lit (.string s)=>[.string ⟨s.toArray⟩]
   | _=>[]
  | _=>[]
 | _=>[]
def setRow (cs:Array Value):Obj→Obj
 | .cells _ t frozen=>.cells cs t frozen
 | o=>o
section
variable {H:Type} {enc:TypeId×Value→H} {P:Program}
theorem Rs {f:Func} {s:ChangeSpec} {apart fresh e l:Bool} {W m:World} {args:Array Value} {v:Value} {ds q:List (DataW H)} {before pa pv:List MemPlace}
  (u:DataW.Whole enc P f.params.toList s.vars apart W args.toList ds q before)
  (h:∀ (b:Nat) (k:Nat→Bool) (hd:Bool),DataW.TrodAll enc P m b k hd f.resultTypes.toList (v.resultList f.resultTypes.size) (s.fn H (ds++q)).results [])
  (d:∀ k:Nat→Bool,(∀ p∈before,k p.block=true)→DataW.TrodAll enc P m 0 k true f.params.toList args.toList (s.fn H (ds++q)).args pa)
  (a:∀ k:Nat→Bool,(∀ p∈before,k p.block=true)→DataW.TrodVars enc P m k s.vars (s.fn H (ds++q)).vars pv)
  (g:before=pa++pv) (hb:Below W.heap.size W m)
  (hok:∀ (j:Nat) (t:TypeId) (r:Value),f.resultTypes[j]?=some t→(v.resultList f.resultTypes.size)[j]?=some r→Value.okWide P m .any 0 t r) :
  s.post enc P f apart fresh e l W args v m:=by
 have n:∀ p∈before,p.block < W.heap.size:=fun p c=>u.lt p c
 have i:∀ p∈before,(fun b=>decide (b < W.heap.size)) p.block=true:=fun p c=>by simpa using n p c
 refine ⟨ds,q,before,[],pa,pv,u,h _ _ _,d _ i,a _ i,World.keptBut_mono (fun p c=>⟨c,?_⟩) (hb.frame (·∈before)),fun _=>?_⟩
 ·rw [g,List.mem_append] at c
  exact Or.inr c
 ·obtain ⟨_,_,_,_,_,hz,hn⟩:=u
  refine ⟨hok,_,_,([]++pa)++pv,⟨[]++pa,pv,trodAll_append (d _ (fun _ _=>rfl)) (h _ _ _),a _ (fun _ _=>rfl),rfl,?_,?_⟩,?_⟩
  ·intro b off c
   have o:MemPlace.cell b off∈before:=by rw [g]; simpa using c
   rw [hb.frozen (n _ o)]
   exact hz b off o
  ·intro ha
   have:=hn ha
   rw [g] at this
   simpa using this
  ·intro p c _
   rw [g]
   simpa using c
end
noncomputable def yc (h:Array Obj) (x:String×DataW Unit):Array Obj:=
 match Tryz.prog.globalNamed x.1 with
 | some g=>h.modify g (setRow (nP x.2).toArray)
 | none=>h
theorem nj:Tryz.prog.cellsOf 3=1:=by kernel_rfl
theorem tS:laidOutB Tryz.prog=true:=by kernel_rfl
set_option maxRecDepth 100000 in
theorem tT {H:Type} {enc:TypeId×Value→H} {W:World} {r:Reach} {b0:Nat} {v:Value} {d:DataW H} {ps:List MemPlace} (hval:Value.okWide Tryz.prog W r b0 22 v)
  (h:DataW.Trod enc Tryz.prog W 0 (fun _=>true) true 22 v d ps):∃ ns,G5 W W.heap.size v ns:=by
 obtain ⟨a0,len,cap,rfl⟩:=okWide_slice Tryz.underlying22 hval
 obtain ⟨fuel,hf⟩:=h
 rcases open_ints Tryz.underlying22 Tryz.underlying3 nj hf with ⟨hcs,_⟩ | ⟨a,len',cap',zs,hcs,_,hl,hm,hz,_,hcell,hwz⟩
 ·simp [Value.cells] at hcs
  obtain ⟨rfl,rfl,rfl⟩:=hcs
  exact ⟨[],none,0,rfl,Nat.zero_le _,fun x hx=>(by cases hx),fun h=>(by cases h)⟩
 ·simp [Value.cells] at hcs
  obtain ⟨rfl,rfl,rfl⟩:=hcs
  rw [if_pos rfl] at hz
  have hlen:(zs.take len).length=len:=by simp; omega
  refine ⟨zs.take len,some a,cap,by rw [hlen],by omega,fun x hx=>bounds_i64 (hwz x (List.mem_of_mem_take hx)),fun h=>?_⟩
  obtain ⟨b,off,rfl,hc⟩:=Go.ints_at hcell (by omega)
  refine ⟨b,off,rfl,World.block_lt_of_cell? W _ (hc 0 (by omega)),fun i hi=>?_⟩
  rw [hc i (by omega),List.getElem_take,List.getD_eq_getElem?_getD,List.getElem?_eq_getElem (by omega)]
  rfl
end Go.Proofs.YtkjbdagicjbjjaaGreat

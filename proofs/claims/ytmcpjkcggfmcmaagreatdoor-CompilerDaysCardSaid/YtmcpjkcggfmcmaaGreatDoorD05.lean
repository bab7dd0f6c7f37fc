/-
  Part 5 of a proof: contracts of functions.
-/
import Derived.Test.YtmcpjkcggfmcmaaGreatDoorD00
import Derived.Orders
import Derived.Laws.Cells
import Derived.Test.YtmcpjkcggfmcmaaGreatDoorD04
import Derived.Below
import Derived.Test.YtmcpjkcggfmcmaaGreatDoorProg
import Derived.WalkKit
import Derived.WalkSpells
import Derived.WalkLawsBesides
import Derived.Outline
import Derived.Lib.Hide
import Derived.Deep.DeepFit
import Derived.Deep.QuietTactic
import Derived.BigQuiet
import Derived.Shelf.Strings.Builder1
import Derived.Shelf.Strings.BuilderF
import Derived.Shelf.Strings.BuilderK
import Derived.Shelf.Strconv.Itoa0
import Derived.Shelf.Strconv.Itoa1
import Derived.Shelf.LaysM
import Derived.Shelf.Strconv.Itoa2
import Derived.Shelf.Strconv.Itoa3
import Derived.Shelf.Sort.Plain
import Derived.Shelf.Strings.BuilderCap
import Derived.Ground.Names2Prog
import Derived.Shelf.Slices.CompactI
set_option linter.all false
namespace Go.Proofs.YtmcpjkcggfmcmaaGreatDoor
section
variable (P:Program)
noncomputable def Pc (t:TypeId):Option Bool:=match P.underlying t with
 | some (.struct _) | some (.array _ _)=>some true
 | some _=>some false
 | none=>none
noncomputable def PG (t:TypeId):Option Nat:=(P.info? t).map (·.size)
end
section
variable {P:Program}
theorem N6 {t:TypeId} {n:Nat} (h:PG P t=some n) (w:World):(sizeOf t).run P w=.ok n w:=by
 unfold PG at h
 rw [Option.map_eq_some_iff] at h
 obtain ⟨i,a,h2⟩:=h
 simp [sizeOf,typeInfo,a,h2]
theorem Qw {t:TypeId} {b:Bool} (h:Pc P t=some b) (w:World):(isAgg t).run P w=.ok b w:=by
 unfold Pc at h
 split at h
 ·rename_i fs hu; obtain rfl:=Option.some.inj h; simp [isAgg,run_underlying hu]
 ·rename_i n e hu; obtain rfl:=Option.some.inj h; simp [isAgg,run_underlying hu]
 ·rename_i d h1 h2 hu
  obtain rfl:=Option.some.inj h
  cases d <;> first | (exact (h1 _ rfl).elim) | (exact (h2 _ _ rfl).elim) | simp [isAgg,run_underlying hu]
 ·cases h
end
theorem iq (a:Addr) (n:Nat) (hs:a.spot=none):a.add n=⟨a.block,a.off + n,none⟩:=by
 unfold Addr.add
 split
 ·rename_i e; subst e; cases a; simp_all
 ·simp
end Go.Proofs.YtmcpjkcggfmcmaaGreatDoor
namespace Go.Proofs.YtmcpjkcggfmcmaaGreatDoor
section
variable {P:Program} {f:FuncId} {R:Ending→World→Prop}
theorem EC.below {O:List Nat} {B:Nat} {w w':World} (h:EC O B w w') {a:Nat} (d:a≤B) (b:∀ k∈O,a≤k):Go.RowKit.Below a w w':=
 ⟨h.os,h.tape,h.output,h.size,fun k c=>h.block k (by omega) fun hm=>by have:=b k hm; omega⟩
theorem LE (w:World) (mem:List BI) (hg:∀ e∈mem,e.good w) (hn:(mem.map (·.id)).Nodup):DH (mem.map (·.id)) w.heap.size w ⟨w.heap.size,mem,(0,0),[]⟩:=by
 refine ⟨⟨rfl,hg,fun i j e e' hi c _ a he=>?_⟩,Nat.le_refl _,fun e he _=>.inl (List.mem_map.2 ⟨e,he,rfl⟩)⟩
 have b:(mem.map (·.id))[i]?=some e.id:=by rw [List.getElem?_map,hi]; rfl
 have h2:(mem.map (·.id))[j]?=some e.id:=by rw [List.getElem?_map,c]; exact congrArg some he.symm
 exact a ((List.getElem?_inj (List.getElem?_eq_some_iff.1 b).1 hn).1 (b.trans h2.symm))
def FY (n:Nat) (E:Nat→Value):List Item→Option Oper
 | .inRegion ops (i :: _) :: _=>match ops[i]? with
  | some o=>match Region.wanted o (Hy n ops E) with
   | true=>some o
   | false=>none
  | none=>none
 | _=>none
theorem NP {n:Nat} {todo:List Item} {E:Nat→Value} {w w':World} {v:Value} (o:Oper) (hc:FY n E todo=some o) (a:(execOp (BN n E) o).run P w=.ok (.value v) w') (h:At P f R (AE todo) (Fr n (Bc E o.dst v)) w'):At P f R todo (Fr n E) w:=by
 unfold FY at hc
 split at hc
 ·rename_i ops i r k
  split at hc
  ·rename_i o' ho
   split at hc
   ·rename_i hw
    obtain rfl:=Option.some.inj hc
    refine FU ho (by rw [Ez]; exact hw) ?_
    unfold Oper.wp
    rw [Cm,a]
    show wpOps P ops _ r ((Fr n E).put o'.dst v) w'
    rw [Dy]
    exact h
   ·cases hc
  ·cases hc
 ·cases hc
def IU (n:Nat) (E:Nat→Value) (todo:List Item):Option (FuncId×List Value×Option Tmp):=match FY n E todo with
 | some o=>match o.op with
  | .call ⟨.value x,xs,_⟩=>match BN n E x with
   | .func (.func g) ⟨first⟩ ⟨captured⟩=>some (g,first++(xs.toList.map (BN n E)++captured),o.dst)
   | _=>none
  | _=>none
 | none=>none
theorem ik {n:Nat} {todo:List Item} {E:Nat→Value} {w:World} (g:FuncId) (args:List Value) (dst:Option Tmp) (hc:IU n E todo=some (g,args,dst)) (hg:Dw P g=true)
  (h:Calls P g args.toArray w fun e w'=>∃ v,e=.returned v∧At P f R (AE todo) (Fr n (Bc E dst v)) w'):At P f R todo (Fr n E) w:=by
 unfold IU at hc
 split at hc
 ·rename_i o hcur
  split at hc
  ·rename_i x xs ats ho
   split at hc
   ·rename_i g' first captured hx
    simp only [Option.some.injEq,Prod.mk.injEq] at hc
    obtain ⟨rfl,ha,rfl⟩:=hc
    unfold FY at hcur
    split at hcur
    ·rename_i ops i r k
     split at hcur
     ·rename_i o' ho'
      split at hcur
      ·rename_i hw
       obtain rfl:=Option.some.inj hcur
       refine FU ho' (by rw [Ez]; exact hw) ?_
       unfold Oper.wp
       rw [Cm]
       have e:(execOp (BN n E) o').run P w=.ok (.enter g' args.toArray) w:=by
        rw [← BW (h:=hg) args.toArray w,← ha]
        have c:((⟨first⟩:Array Value)++xs.map (BN n E))++(⟨captured⟩:Array Value)=(first++(xs.toList.map (BN n E)++captured)).toArray:=by
         apply Array.ext'
         simp
        rw [← c]
        simp only [execOp,ho,resolve,hx]
        rfl
       rw [e]
       refine h.mono fun d w' b=>?_
       obtain ⟨v,rfl,a⟩:=b
       show wpOps P ops _ r ((Fr n E).put o'.dst v) w'
       rw [Dy]
       exact a
      ·cases hcur
     ·cases hcur
    ·cases hcur
   ·cases hc
  ·cases hc
 ·cases hc
def NM (n:Nat) (E:Nat→Value) (todo:List Item):Option (TypeId×Value×Option Tmp):=match FY n E todo with
 | some o=>match o.op with
  | .load t x=>some (t,BN n E x,o.dst)
  | _=>none
 | none=>none
theorem CC {n:Nat} {todo:List Item} {E:Nat→Value} {w:World} (t:TypeId) (b o:Nat) (cs:List Value) (dst:Option Tmp) (c:w.rangeAt b o cs) (h:At P f R (AE todo) (Fr n (Bc E dst (.agg ⟨cs⟩))) w) (hc:NM n E todo=some (t,.pointer (some ⟨b,o,none⟩),dst):=by kernel_rfl) (h1:Pc P t=some true:=by kernel_rfl) (h2:PG P t=some cs.length:=by kernel_rfl):At P f R todo (Fr n E) w:=by
 unfold NM at hc
 split at hc
 ·rename_i op hcur
  split at hc
  ·rename_i t' x ho
   simp only [Option.some.injEq,Prod.mk.injEq] at hc
   obtain ⟨rfl,a,rfl⟩:=hc
   refine NP op hcur (v:=.agg ⟨cs⟩) (w':=w) ?_ h
   have hl:=run_loadCells_list (P:=P) w ⟨b,o,none⟩ cs fun j v d=>by
    rw [iq _ _ rfl]
    exact c j v d
   simp [execOp,ho,a,Instr.loadAt,Instr.sureAddr,loadVar,Qw h1,N6 h2,hl]
  ·cases hc
 ·cases hc
theorem EA {n:Nat} {todo:List Item} {E:Nat→Value} {w:World} (t:TypeId) (b o:Nat) (v:Value) (dst:Option Tmp) (c:w.cell? ⟨b,o,none⟩=some v) (h:At P f R (AE todo) (Fr n (Bc E dst v)) w) (hc:NM n E todo=some (t,.pointer (some ⟨b,o,none⟩),dst):=by kernel_rfl) (h1:Pc P t=some false:=by kernel_rfl):At P f R todo (Fr n E) w:=by
 unfold NM at hc
 split at hc
 ·rename_i op hcur
  split at hc
  ·rename_i t' x ho
   simp only [Option.some.injEq,Prod.mk.injEq] at hc
   obtain ⟨rfl,a,rfl⟩:=hc
   refine NP op hcur (v:=v) (w':=w) ?_ h
   simp [execOp,ho,a,Instr.loadAt,Instr.sureAddr,loadVar,Qw h1,load,Sem.run,c]
  ·cases hc
 ·cases hc
theorem Eg {n:Nat} {fn:Func} {E:Nat→Value} {w:World} {todo:List Item} (m:Nat) (v:Value) (hk:∀ w',Go.RowKit.Below w.heap.size w w'→R (.returned v) w') (hf:P.funcs[f]?=some fn:=by kernel_rfl) (he:(fun a:St=>(Pa a.todo,a.ms.mem,a.ms.sz,a.ms.eqs,(Dn P (Fg fn n a.env) ⟨0,[],(0,0),[]⟩).map (fun r=>(r.1,r.2.eqs)))) (Hu P n m ⟨todo,E,⟨w.heap.size,[],(0,0),[]⟩,[]⟩)=(true,[],w.heap.size,[],some (v,[])):=by kernel_rfl):At P f R todo (Fr n E) w:=by
 simp only [Prod.mk.injEq] at he
 obtain ⟨h1,h2,h3,h4,h5⟩:=he
 refine U4 (O:=[]) (B:=w.heap.size) m ⟨todo,E,⟨w.heap.size,[],(0,0),[]⟩,[]⟩ (Br w) (by rw [h4]; rfl) fun w' hL' hK=>?_
 let z0:=Fg fn n (Hu P n m ⟨todo,E,⟨w.heap.size,[],(0,0),[]⟩,[]⟩).env
 have h6:(Dn P z0 ⟨0,[],(0,0),[]⟩).map (·.1)=some v:=by
  cases hl:Dn P z0 ⟨0,[],(0,0),[]⟩ with
  | none=>rw [hl] at h5; cases h5
  | some r=>rw [hl] at h5; simp at h5; simp [h5.1]
 refine QE (fn:=fn) h1 hf ⟨0,[],(0,0),[]⟩ (fun e he=>(by cases he)) v h6 ?_ (hk w' (hK.below (Nat.le_refl _) (fun k hk=>by cases hk)))
 cases hl:Dn P z0 ⟨0,[],(0,0),[]⟩ with
 | none=>rfl
 | some r=>
  rw [hl] at h5
  simp at h5
  simp [h5.2]
end
end Go.Proofs.YtmcpjkcggfmcmaaGreatDoor
namespace Go.Proofs.YtmcpjkcggfmcmaaGreatDoor
namespace Tk
def isDig (c:UInt8):Bool:=decide (48≤c.toNat∧c.toNat≤57)
def isLow (c:UInt8):Bool:=decide (97≤c.toNat∧c.toNat≤122)
def isWord (c:UInt8):Bool:=isLow c || isDig c || decide (c.toNat=95)
def lead (p:UInt8→Bool):List UInt8→Nat
 | []=>0
 | c :: r=>if p c=true then lead p r + 1 else 0
theorem lead_le (p:UInt8→Bool) (l:List UInt8):lead p l≤l.length:=by
 induction l with
 | nil=>simp [lead]
 | cons c r ih=>unfold lead; split <;> simp <;> omega
theorem lead_all (p:UInt8→Bool) (l:List UInt8) (j:Nat) (a:j < lead p l) (h:j < l.length):p l[j]=true:=by
 induction l generalizing j with
 | nil=>simp at h
 | cons c r ih=>
  unfold lead at a
  split at a
  ·rename_i hc
   cases j with
   | zero=>simpa using hc
   | succ j=>simp at h ⊢; exact ih j (by omega) h
  ·omega
theorem lead_stop (p:UInt8→Bool) (l:List UInt8) (h:lead p l < l.length):p l[lead p l]=false:=by
 induction l with
 | nil=>simp at h
 | cons c r ih=>
  by_cases hc:p c=true
  ·have e:lead p (c :: r)=lead p r + 1:=by simp [lead,hc]
   simp only [e,List.length_cons] at h ⊢
   simp only [List.getElem_cons_succ]
   exact ih (by omega)
  ·have e:lead p (c :: r)=0:=by simp [lead,hc]
   simp only [e]
   simpa using hc
theorem lead_eq (p:UInt8→Bool) (l:List UInt8) (k:Nat) (a:k≤l.length) (ha:∀ j (h:j < l.length),j < k→p l[j]=true) (hs:∀ h:k < l.length,p l[k]=false):lead p l=k:=by
 have b:=lead_le p l
 rcases Nat.lt_trichotomy (lead p l) k with h | h | h
 ·have:=lead_stop p l (by omega)
  rw [ha _ _ h] at this
  cases this
 ·exact h
 ·have:=lead_all p l k h (by omega)
  rw [hs (by omega)] at this
  cases this
def digs (l:List UInt8):Nat:=lead isDig l
def keywords:List (List UInt8):=[[97,103,114,101,101,109,101,110,116],[105,110,112,117,116],[112,97,115,116],[115,99,97,108,101],[114,117,108,101],[112,97,121],[102,114,111,109],[114,111,117,110,100,101,100],[116,111],[105,102],[116,104,101,110],[101,108,115,101],[97,110,100],[111,114],[110,111,116],[116,114,117,101],[102,97,108,115,101],[109,105,110],[109,97,120],[114,111,117,110,100],[97,118,101,114,97,103,101],[108,97,115,116],[109,111,110,101,121],[104,111,117,114,115],[100,97,121,115],[110,117,109,98,101,114],[98,111,111,108],[100,111,119,110],[117,112],[102,108,111,111,114],[99,101,105,108,105,110,103],[104,97,108,102,95,117,112],[104,97,108,102,95,100,111,119,110],[104,97,108,102,95,101,118,101,110]]
def isKey (l:List UInt8):Bool:=keywords.contains l
def wordLen:List UInt8→Nat
 | []=>0
 | c :: r=>if isLow c=true then lead isWord r + 1 else 0
def isName (l:List UInt8):Bool:=decide (0 < l.length) && decide (l.length≤24) && decide (wordLen l=l.length) && !isKey l
def form:List Bool→List UInt8→Bool
 | [],_=>true
 | _ :: _,[]=>false
 | p :: ps,c :: r=>(if p=true then isDig c else decide (c.toNat=45)) && form ps r
def val (l:List UInt8):Nat:=l.foldl (fun n c=>n * 10 + (c.toNat - 48)) 0
structure Tok where
 kind:Int:=0
 text:List UInt8:=[]
 num:Int:=0
 den:Int:=0
 day:Int:=0
 place:Int:=0
def hasFrac (l:List UInt8):Bool:=decide ((l.getD (digs l) 0).toNat=46) && isDig (l.getD (digs l + 1) 0)
def frac (l:List UInt8):Nat:=if hasFrac l=true then digs (l.drop (digs l + 1)) else 0
def numEnd (l:List UInt8):Nat:=if hasFrac l=true then digs l + (1 + frac l) else digs l
def pct (l:List UInt8):Bool:=decide ((l.getD (numEnd l) 0).toNat=37)
def most (l:List UInt8):Nat:=if pct l=true then 4 else 6
end Tk
end Go.Proofs.YtmcpjkcggfmcmaaGreatDoor
namespace Go.Proofs.YtmcpjkcggfmcmaaGreatDoor
open Go.RowKit
theorem Hi {k:IntKind} {a b:Int} (h:a=b):Ending.returned (.int k a)=.returned (.int k b):=by rw [h]
theorem qk0 {a b:Bool} (h:a=b):Ending.returned (.bool a)=.returned (.bool b):=by rw [h]
theorem dy (l:List UInt8) (k:Nat) (h:k < (⟨l.toArray⟩:ByteArray).size):(⟨l.toArray⟩:ByteArray)[k]=l[k]'h:=rfl
theorem ZX (l:List UInt8) (a b:Nat):ByteArray.extract ⟨l.toArray⟩ a b=⟨((l.drop a).take (b - a)).toArray⟩:=by
 apply ByteArray.ext
 simp [List.extract_eq_take_drop,List.extract_toArray]
theorem Zi (l:List UInt8) (a:Nat):(l.drop a).take (l.length - a)=l.drop a:=List.take_of_length_le (by simp)
theorem dx {B:Nat} {a w:World} (h:Below B a w) (n:Nat):Below B a (w.drewN n):=⟨h.os,h.tape,h.output,h.size,h.block⟩
theorem PO {P:Program} {f:FuncId} {args:Array Value} {w:World} {n:Nat} {v:Value}
  (h:Calls P f args (w.drewN n) fun e w'=>e=.returned v∧w.drewN n=w'):Calls P f args (w.drewN n) fun e a=>e=.returned v∧∃ m,a=w.drewN m:=
 h.mono fun _ _ ⟨he,hm⟩=>⟨he,n,hm.symm⟩
end Go.Proofs.YtmcpjkcggfmcmaaGreatDoor
namespace Go.Proofs.YtmcpjkcggfmcmaaGreatDoor
open Go.RowKit
theorem JJ (c:UInt8) (w:World) :
  Calls Tryz.prog 121 #[.int .u8 c.toNat] w fun e w'=>e=.returned (.bool (Tk.isDig c))∧w=w':=by
 go_enter Tryz.func121,Tryz.ntmps121
 go_wp2
 all_goals
  go_ret
  refine ⟨qk0 ?_,rfl⟩
  unfold Tk.isDig
  rw [Bool.eq_iff_iff]
  simp
  omega
theorem Gq (c:UInt8) (w:World) :
  Calls Tryz.prog 120 #[.int .u8 c.toNat] w fun e w'=>e=.returned (.bool (Tk.isLow c))∧w=w':=by
 go_enter Tryz.func120,Tryz.ntmps120
 go_wp2
 all_goals
  go_ret
  refine ⟨qk0 ?_,rfl⟩
  unfold Tk.isLow
  rw [Bool.eq_iff_iff]
  simp
  omega
attribute [local go_sem] dy
theorem UN (c:UInt8):Tk.isWord c=true↔(Tk.isLow c=true∨(Tk.isLow c=false∧Tk.isDig c=true)∨(Tk.isLow c=false∧Tk.isDig c=false∧c.toNat=95)):=by
 unfold Tk.isWord
 cases Tk.isLow c <;> cases Tk.isDig c <;> simp
theorem UM {c:UInt8} (h:Tk.isWord c=false):Tk.isLow c=false∧Tk.isDig c=false∧((c.toNat:Int) == 95)=false:=by
 unfold Tk.isWord at h
 cases hl:Tk.isLow c <;> cases hd:Tk.isDig c <;> simp_all
 omega
set_option maxHeartbeats 400000 in
theorem Kv (l:List UInt8) (w:World) (hs:l.length≤maxLen) :
  Calls Tryz.prog 74 #[.string ⟨l.toArray⟩] w fun e w'=>e=.returned (D (Tk.wordLen l))∧w=w':=by
 unfold maxLen at hs
 cases l with
 | nil=>
  go_enter Tryz.func74,Tryz.ntmps74
  go_wp2
  go_ret
  exact ⟨rfl,rfl⟩
 | cons c r=>
  by_cases hc:Tk.isLow c=true
  ·have HC:=Lib.hid hc
   simp only [List.length_cons] at hs
   go_enter Tryz.func74,Tryz.ntmps74
   go_wp2_with ((go_at_call 120; refine (Gq _ _).mono ?_; rintro e w' ⟨rfl,rfl⟩))
   clear hc
   go_loop [3] (fun n=>∃ k:Nat,k≤r.length∧n=D (k + 1)∧Hid (∀ j (h:j < r.length),j < k→Tk.isWord r[j]=true)) (fun i=>r.length + 1 - (intOf i).toNat)
   case atStart=>exact ⟨0,Nat.zero_le _,rfl,fun _ _ h=>by omega⟩
   case round=>
    obtain ⟨k,hk,rfl,HA⟩:=hrel
    by_cases hlt:k < r.length
    ·by_cases hd:Tk.isWord r[k]=true
     ·have HD:=Lib.hid hd
      rcases (UN _).1 hd with h1 | ⟨h1,h2⟩ | ⟨h1,h2,h3⟩
      all_goals clear hd
      ·go_wp2_with ((first | (go_at_call 120; refine (Gq _ _).mono ?_; rintro e w' ⟨rfl,rfl⟩) | (go_at_call 121; refine (JJ _ _).mono ?_; rintro e w' ⟨rfl,rfl⟩)))
       go_round
       case rel=>exact ⟨k + 1,by omega,by go_num,fun j h hj=>if e:j=k then by subst e; exact HD.out else HA.out j h (by omega)⟩
       case measure=>simp [intOf]; omega
      ·go_wp2_with ((first | (go_at_call 120; refine (Gq _ _).mono ?_; rintro e w' ⟨rfl,rfl⟩) | (go_at_call 121; refine (JJ _ _).mono ?_; rintro e w' ⟨rfl,rfl⟩)))
       go_round
       case rel=>exact ⟨k + 1,by omega,by go_num,fun j h hj=>if e:j=k then by subst e; exact HD.out else HA.out j h (by omega)⟩
       case measure=>simp [intOf]; omega
      ·have h4:((r[k].toNat:Int) == 95)=true:=by simp; omega
       clear h3
       go_wp2_with ((first | (go_at_call 120; refine (Gq _ _).mono ?_; rintro e w' ⟨rfl,rfl⟩) | (go_at_call 121; refine (JJ _ _).mono ?_; rintro e w' ⟨rfl,rfl⟩)))
       go_round
       case rel=>exact ⟨k + 1,by omega,by go_num,fun j h hj=>if e:j=k then by subst e; exact HD.out else HA.out j h (by omega)⟩
       case measure=>simp [intOf]; omega
     ·have hd:Tk.isWord r[k]=false:=by simpa using hd
      have HD:=Lib.hid hd
      obtain ⟨h1,h2,h4⟩:=UM hd
      clear hd
      go_wp2_with ((first | (go_at_call 120; refine (Gq _ _).mono ?_; rintro e w' ⟨rfl,rfl⟩) | (go_at_call 121; refine (JJ _ _).mono ?_; rintro e w' ⟨rfl,rfl⟩)))
      go_ret
      exact ⟨Hi (by simp only [Tk.wordLen,HC.out,if_true]; rw [Tk.lead_eq _ _ k hk HA.out (fun _=>HD.out)]; omega),rfl⟩
    ·go_wp2_with fail
     go_ret
     exact ⟨Hi (by simp only [Tk.wordLen,HC.out,if_true]; rw [Tk.lead_eq _ _ k hk HA.out (fun h=>absurd h hlt)]; omega),rfl⟩
  ·have hc:Tk.isLow c=false:=by simpa using hc
   have HC:=Lib.hid hc
   go_enter Tryz.func74,Tryz.ntmps74
   go_wp2_with ((go_at_call 120; refine (Gq _ _).mono ?_; rintro e w' ⟨rfl,rfl⟩))
   go_ret
   exact ⟨Hi (by simp [Tk.wordLen,HC.out]),rfl⟩
theorem Bh {l k:List UInt8} (h:Tk.isKey l=false) (a:k∈Tk.keywords):(l == k)=false:=by
 rw [beq_eq_false_iff_ne]
 rintro rfl
 unfold Tk.isKey at h
 rw [List.contains_iff_mem.2 a] at h
 cases h
set_option maxHeartbeats 2000000 in
theorem ME (l:List UInt8) (w:World) :
  Calls Tryz.prog 75 #[.string ⟨l.toArray⟩] w fun e w'=>e=.returned (.bool (Tk.isKey l))∧w=w':=by
 by_cases hk:Tk.isKey l=true
 ·have hm:l∈Tk.keywords:=List.contains_iff_mem.1 hk
  rw [hk]
  clear hk
  simp only [Tk.keywords,List.mem_cons,List.not_mem_nil,or_false] at hm
  rcases hm with rfl | rfl | rfl | rfl | rfl | rfl | rfl | rfl | rfl | rfl | rfl | rfl | rfl | rfl | rfl | rfl | rfl | rfl | rfl | rfl | rfl | rfl | rfl | rfl | rfl | rfl | rfl | rfl | rfl | rfl | rfl | rfl | rfl | rfl
  all_goals
   go_enter Tryz.func75,Tryz.ntmps75
   go_wp2
   go_ret
   exact ⟨rfl,rfl⟩
 ·have hk:Tk.isKey l=false:=by simpa using hk
  rw [hk]
  have k0:=Bh (k:=[97,103,114,101,101,109,101,110,116]) hk (by decide)
  have k1:=Bh (k:=[105,110,112,117,116]) hk (by decide)
  have k2:=Bh (k:=[112,97,115,116]) hk (by decide)
  have k3:=Bh (k:=[115,99,97,108,101]) hk (by decide)
  have k4:=Bh (k:=[114,117,108,101]) hk (by decide)
  have k5:=Bh (k:=[112,97,121]) hk (by decide)
  have k6:=Bh (k:=[102,114,111,109]) hk (by decide)
  have k7:=Bh (k:=[114,111,117,110,100,101,100]) hk (by decide)
  have k8:=Bh (k:=[116,111]) hk (by decide)
  have k9:=Bh (k:=[105,102]) hk (by decide)
  have k10:=Bh (k:=[116,104,101,110]) hk (by decide)
  have k11:=Bh (k:=[101,108,115,101]) hk (by decide)
  have k12:=Bh (k:=[97,110,100]) hk (by decide)
  have k13:=Bh (k:=[111,114]) hk (by decide)
  have k14:=Bh (k:=[110,111,116]) hk (by decide)
  have k15:=Bh (k:=[116,114,117,101]) hk (by decide)
  have k16:=Bh (k:=[102,97,108,115,101]) hk (by decide)
  have k17:=Bh (k:=[109,105,110]) hk (by decide)
  have k18:=Bh (k:=[109,97,120]) hk (by decide)
  have k19:=Bh (k:=[114,111,117,110,100]) hk (by decide)
  have k20:=Bh (k:=[97,118,101,114,97,103,101]) hk (by decide)
  have k21:=Bh (k:=[108,97,115,116]) hk (by decide)
  have k22:=Bh (k:=[109,111,110,101,121]) hk (by decide)
  have k23:=Bh (k:=[104,111,117,114,115]) hk (by decide)
  have k24:=Bh (k:=[100,97,121,115]) hk (by decide)
  have k25:=Bh (k:=[110,117,109,98,101,114]) hk (by decide)
  have k26:=Bh (k:=[98,111,111,108]) hk (by decide)
  have k27:=Bh (k:=[100,111,119,110]) hk (by decide)
  have k28:=Bh (k:=[117,112]) hk (by decide)
  have k29:=Bh (k:=[102,108,111,111,114]) hk (by decide)
  have k30:=Bh (k:=[99,101,105,108,105,110,103]) hk (by decide)
  have k31:=Bh (k:=[104,97,108,102,95,117,112]) hk (by decide)
  have k32:=Bh (k:=[104,97,108,102,95,100,111,119,110]) hk (by decide)
  have k33:=Bh (k:=[104,97,108,102,95,101,118,101,110]) hk (by decide)
  clear hk
  go_enter Tryz.func75,Tryz.ntmps75
  go_wp2
  go_ret
  exact ⟨rfl,rfl⟩
end Go.Proofs.YtmcpjkcggfmcmaaGreatDoor
namespace Go.Proofs
open Go.Shelf
def Tryz.lays129_ren:Go.Shelf.Ren:=⟨fun | 129=>186 | n=>n,fun | 53=>153 | 3=>3 | 4=>4 | 46=>50 | 5=>5 | 9=>9 | n=>n,fun | n=>n⟩
theorem Tryz.lays129:Go.Proofs.Lays.n129 Tryz.prog Tryz.lays129_ren:={
 mixed:=by kernel_rfl
 f129:=Tryz.func186.trans (congrArg some (by kernel_rfl))
 t3:=Tryz.underlying3
 a3:=Tryz.isAgg3
 z3:=Tryz.sizeOf3
 v3:=Tryz.zeroValue3
 t4:=Tryz.underlying4
 a4:=Tryz.isAgg4
 z4:=Tryz.sizeOf4
 v4:=Tryz.zeroValue4
 t5:=Tryz.underlying5
 a5:=Tryz.isAgg5
 z5:=Tryz.sizeOf5
 v5:=Tryz.zeroValue5
 t9:=Tryz.underlying9
 a9:=Tryz.isAgg9
 z9:=Tryz.sizeOf9
 v9:=Tryz.zeroValue9
 t46:=Tryz.underlying50
 a46:=Tryz.isAgg50
 z46:=Tryz.sizeOf50
 v46:=Tryz.zeroValue50
 t53:=Tryz.underlying153
 a53:=Tryz.isAgg153
 z53:=Tryz.sizeOf153
 v53:=Tryz.zeroValue153 }
theorem Tryz.bits_Len64 (x:Int) (w:World) (b:0≤x) (a:x≤18446744073709551615) :
  Calls Tryz.prog 186 #[.int .u64 x] w fun e w'=>e=.returned (.int .i64 (Lib.bitLen x.toNat))∧w'=w:=Any.bits_Len64 Tryz.lays129 x w b a
def Tryz.lays171_ren:Go.Shelf.Ren:=⟨fun | 171=>63 | 243=>102 | 246=>132 | 283=>160 | 284=>161 | 285=>162 | 286=>163 | 129=>186 | 317=>187 | 318=>188 | 319=>189 | 320=>190 | 337=>203 | 338=>204 | n=>n,fun | 3=>3 | 9=>9 | 2=>2 | 4=>4 | 171=>196 | 0=>0 | 53=>153 | 37=>122 | 5=>5 | 173=>199 | 212=>213 | 51=>211 | 20=>20 | 213=>214 | 46=>50 | 232=>227 | 233=>228 | n=>n,fun | 17=>1 | 18=>2 | 19=>3 | n=>n⟩
theorem Tryz.lays171:Go.Proofs.Lays.n171 Tryz.prog Tryz.lays171_ren:={
 mixed:=by kernel_rfl
 f129:=Tryz.func186.trans (congrArg some (by kernel_rfl))
 f171:=Tryz.func63.trans (congrArg some (by kernel_rfl))
 f243:=Tryz.func102.trans (congrArg some (by kernel_rfl))
 f246:=Tryz.func132.trans (congrArg some (by kernel_rfl))
 f283:=Tryz.func160.trans (congrArg some (by kernel_rfl))
 f284:=Tryz.func161.trans (congrArg some (by kernel_rfl))
 f285:=Tryz.func162.trans (congrArg some (by kernel_rfl))
 f286:=Tryz.func163.trans (congrArg some (by kernel_rfl))
 f317:=Tryz.func187.trans (congrArg some (by kernel_rfl))
 f318:=Tryz.func188.trans (congrArg some (by kernel_rfl))
 f319:=Tryz.func189.trans (congrArg some (by kernel_rfl))
 f320:=Tryz.func190.trans (congrArg some (by kernel_rfl))
 f337:=Tryz.func203.trans (congrArg some (by kernel_rfl))
 f338:=Tryz.func204.trans (congrArg some (by kernel_rfl))
 t0:=Tryz.underlying0
 a0:=Tryz.isAgg0
 z0:=Tryz.sizeOf0
 v0:=Tryz.zeroValue0
 t2:=Tryz.underlying2
 a2:=Tryz.isAgg2
 z2:=Tryz.sizeOf2
 v2:=Tryz.zeroValue2
 t3:=Tryz.underlying3
 a3:=Tryz.isAgg3
 z3:=Tryz.sizeOf3
 v3:=Tryz.zeroValue3
 t4:=Tryz.underlying4
 a4:=Tryz.isAgg4
 z4:=Tryz.sizeOf4
 v4:=Tryz.zeroValue4
 t5:=Tryz.underlying5
 a5:=Tryz.isAgg5
 z5:=Tryz.sizeOf5
 v5:=Tryz.zeroValue5
 t9:=Tryz.underlying9
 a9:=Tryz.isAgg9
 z9:=Tryz.sizeOf9
 v9:=Tryz.zeroValue9
 t20:=Tryz.underlying20
 a20:=Tryz.isAgg20
 z20:=Tryz.sizeOf20
 v20:=Tryz.zeroValue20
 t37:=Tryz.underlying122
 a37:=Tryz.isAgg122
 z37:=Tryz.sizeOf122
 v37:=Tryz.zeroValue122
 t46:=Tryz.underlying50
 a46:=Tryz.isAgg50
 z46:=Tryz.sizeOf50
 v46:=Tryz.zeroValue50
 t51:=Tryz.underlying211
 a51:=Tryz.isAgg211
 z51:=Tryz.sizeOf211
 v51:=Tryz.zeroValue211
 t53:=Tryz.underlying153
 a53:=Tryz.isAgg153
 z53:=Tryz.sizeOf153
 v53:=Tryz.zeroValue153
 t171:=Tryz.underlying196
 a171:=Tryz.isAgg196
 z171:=Tryz.sizeOf196
 v171:=Tryz.zeroValue196
 t173:=Tryz.underlying199
 a173:=Tryz.isAgg199
 z173:=Tryz.sizeOf199
 v173:=Tryz.zeroValue199
 t212:=Tryz.underlying213
 a212:=Tryz.isAgg213
 z212:=Tryz.sizeOf213
 v212:=Tryz.zeroValue213
 t213:=Tryz.underlying214
 a213:=Tryz.isAgg214
 z213:=Tryz.sizeOf214
 t232:=Tryz.underlying227
 a232:=Tryz.isAgg227
 z232:=Tryz.sizeOf227
 v232:=Tryz.zeroValue227
 t233:=Tryz.underlying228
 a233:=Tryz.isAgg228
 z233:=Tryz.sizeOf228
 v233:=Tryz.zeroValue228
 g17:=by kernel_rfl
 g18:=by kernel_rfl
 g19:=by kernel_rfl }
open Go.RowKit Go.Sort Go.Lib in
theorem Tryz.strconv_Itoa_small (i:Nat) (hi:i < 100) (w:World) :
  Calls Tryz.prog 63 #[.int .i64 i] w fun e w'=>e=.returned (.string ⟨(Lib.decDigits i).toArray⟩)∧w'=w:=Any.strconv_Itoa_small Tryz.lays171 i hi w
def Tryz.lays189_ren:Go.Shelf.Ren:=⟨fun | 189=>129 | 125=>159 | 257=>158 | 128=>185 | 129=>186 | 294=>176 | 295=>177 | 296=>178 | 297=>179 | 298=>180 | 299=>181 | 216=>182 | 300=>183 | 301=>184 | 328=>197 | 329=>198 | 330=>199 | 331=>200 | 332=>201 | 215=>202 | 343=>210 | n=>n,fun | 28=>56 | 3=>3 | 46=>50 | 0=>0 | 51=>211 | 53=>153 | 4=>4 | 183=>205 | 182=>204 | 131=>114 | 5=>5 | 9=>9 | 218=>220 | 222=>223 | 228=>225 | 229=>118 | n=>n,fun | n=>n⟩
theorem Tryz.lays189:Go.Proofs.Lays.n189 Tryz.prog Tryz.lays189_ren:={
 mixed:=by kernel_rfl
 f125:=Tryz.func159.trans (congrArg some (by kernel_rfl))
 f128:=Tryz.func185.trans (congrArg some (by kernel_rfl))
 f129:=Tryz.func186.trans (congrArg some (by kernel_rfl))
 f189:=Tryz.func129.trans (congrArg some (by kernel_rfl))
 f215:=Tryz.func202.trans (congrArg some (by kernel_rfl))
 f216:=Tryz.func182.trans (congrArg some (by kernel_rfl))
 f257:=Tryz.func158.trans (congrArg some (by kernel_rfl))
 f294:=Tryz.func176.trans (congrArg some (by kernel_rfl))
 f295:=Tryz.func177.trans (congrArg some (by kernel_rfl))
 f296:=Tryz.func178.trans (congrArg some (by kernel_rfl))
 f297:=Tryz.func179.trans (congrArg some (by kernel_rfl))
 f298:=Tryz.func180.trans (congrArg some (by kernel_rfl))
 f299:=Tryz.func181.trans (congrArg some (by kernel_rfl))
 f300:=Tryz.func183.trans (congrArg some (by kernel_rfl))
 f301:=Tryz.func184.trans (congrArg some (by kernel_rfl))
 f328:=Tryz.func197.trans (congrArg some (by kernel_rfl))
 f329:=Tryz.func198.trans (congrArg some (by kernel_rfl))
 f330:=Tryz.func199.trans (congrArg some (by kernel_rfl))
 f331:=Tryz.func200.trans (congrArg some (by kernel_rfl))
 f332:=Tryz.func201.trans (congrArg some (by kernel_rfl))
 f343:=Tryz.func210.trans (congrArg some (by kernel_rfl))
 t0:=Tryz.underlying0
 a0:=Tryz.isAgg0
 z0:=Tryz.sizeOf0
 v0:=Tryz.zeroValue0
 t3:=Tryz.underlying3
 a3:=Tryz.isAgg3
 z3:=Tryz.sizeOf3
 v3:=Tryz.zeroValue3
 t4:=Tryz.underlying4
 a4:=Tryz.isAgg4
 z4:=Tryz.sizeOf4
 v4:=Tryz.zeroValue4
 t5:=Tryz.underlying5
 a5:=Tryz.isAgg5
 z5:=Tryz.sizeOf5
 v5:=Tryz.zeroValue5
 t9:=Tryz.underlying9
 a9:=Tryz.isAgg9
 z9:=Tryz.sizeOf9
 v9:=Tryz.zeroValue9
 t28:=Tryz.underlying56
 a28:=Tryz.isAgg56
 z28:=Tryz.sizeOf56
 v28:=Tryz.zeroValue56
 t46:=Tryz.underlying50
 a46:=Tryz.isAgg50
 z46:=Tryz.sizeOf50
 v46:=Tryz.zeroValue50
 t51:=Tryz.underlying211
 a51:=Tryz.isAgg211
 z51:=Tryz.sizeOf211
 v51:=Tryz.zeroValue211
 t53:=Tryz.underlying153
 a53:=Tryz.isAgg153
 z53:=Tryz.sizeOf153
 v53:=Tryz.zeroValue153
 t131:=Tryz.underlying114
 a131:=Tryz.isAgg114
 z131:=Tryz.sizeOf114
 v131:=Tryz.zeroValue114
 t182:=Tryz.underlying204
 a182:=Tryz.isAgg204
 z182:=Tryz.sizeOf204
 v182:=Tryz.zeroValue204
 t183:=Tryz.underlying205
 a183:=Tryz.isAgg205
 z183:=Tryz.sizeOf205
 v183:=Tryz.zeroValue205
 t218:=Tryz.underlying220
 a218:=Tryz.isAgg220
 z218:=Tryz.sizeOf220
 v218:=Tryz.zeroValue220
 t222:=Tryz.underlying223
 a222:=Tryz.isAgg223
 z222:=Tryz.sizeOf223
 v222:=Tryz.zeroValue223
 t228:=Tryz.underlying225
 a228:=Tryz.isAgg225
 z228:=Tryz.sizeOf225
 v228:=Tryz.zeroValue225
 t229:=Tryz.underlying118
 a229:=Tryz.isAgg118
 z229:=Tryz.sizeOf118
 v229:=Tryz.zeroValue118 }
open Go.Sort Go.RowKit in
theorem Tryz.slices_Sort_int (blk off cap:Nat) (zs:List Int) (w:World) (hH:Holds (Value.int .i64) w blk off zs.toArray) (hblk:blk < w.heap.size) (hsz:zs.length < 4611686018427387904) :
  Calls Tryz.prog 129 #[.slice (some ⟨blk,off,none⟩) zs.length cap] w fun e w'=>
   e=.returned (.tuple #[])∧∃ n os,w'=grow (putRow (Value.int .i64) (Sort.ahead w n) blk off (zs.mergeSort fun x y=>decide (x≤y)).toArray) os:=Any.slices_Sort_int Tryz.lays189 blk off cap zs w hH hblk hsz
def Tryz.laysNm220_ren:Go.Shelf.Ren:=⟨fun | 20=>130 | n=>n,fun | 22=>56 | 3=>3 | 4=>4 | 0=>0 | n=>n,fun | n=>n⟩
theorem Tryz.laysNm220:Go.Proofs.Lays2.n20 Tryz.prog Tryz.laysNm220_ren:={
 mixed:=by kernel_rfl
 f20:=Tryz.func130.trans (congrArg some (by kernel_rfl))
 t0:=Tryz.underlying0
 a0:=Tryz.isAgg0
 z0:=Tryz.sizeOf0
 v0:=Tryz.zeroValue0
 t3:=Tryz.underlying3
 a3:=Tryz.isAgg3
 z3:=Tryz.sizeOf3
 v3:=Tryz.zeroValue3
 t4:=Tryz.underlying4
 a4:=Tryz.isAgg4
 z4:=Tryz.sizeOf4
 v4:=Tryz.zeroValue4
 t22:=Tryz.underlying56
 a22:=Tryz.isAgg56
 z22:=Tryz.sizeOf56
 v22:=Tryz.zeroValue56
 i3:=by kernel_rfl }
open Go.RowKit Go.Lib Go.Sort in
theorem Tryz.slices_Compact_int (blk off cap:Nat) (zs:List Int) (w:World) (hH:Holds (Value.int .i64) w blk off zs.toArray) (hsz:zs.length≤9223372036854775807) (hcap:zs.length≤cap) :
  Calls Tryz.prog 130 #[.slice (some ⟨blk,off,none⟩) zs.length cap] w fun e w'=>e=.returned (.slice (some ⟨blk,off,none⟩) (Lib.compact zs).length cap)∧∃ q,w'=putRow (Value.int .i64) (Sort.ahead w q) blk off (Lib.compact zs++List.replicate (zs.length - (Lib.compact zs).length) 0).toArray:=Any.slices_Compact_int Tryz.laysNm220 blk off cap zs w hH hsz hcap
open Go.RowKit Go.Lib Go.Sort in
theorem Tryz.slices_Compact_int_empty (a:Option Addr) (cap:Nat) (w:World) :
  Calls Tryz.prog 130 #[.slice a 0 cap] w fun e w'=>e=.returned (.slice a 0 cap)∧w'=w:=Any.slices_Compact_int_empty Tryz.laysNm220 a cap w
end Go.Proofs

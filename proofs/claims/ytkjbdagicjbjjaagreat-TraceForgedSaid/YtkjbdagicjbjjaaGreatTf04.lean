/-
  Part 4 of a proof: contracts of functions.
-/
import Derived.Test.YtkjbdagicjbjjaaGreatTf03
import Derived.Below
import Derived.Test.YtkjbdagicjbjjaaGreatTf00
import Derived.Shelf.Strconv.Itoa0
import Derived.Shelf.Sort.Plain
import Derived.Shelf.Bits.Mul64
import Derived.Ground.Names2Prog
import Derived.Shelf.Slices.CompactI
import Derived.Test.YtkjbdagicjbjjaaGreatProg
import Derived.Deep.QuietTactic
import Derived.BigQuiet
import Derived.IntWalk
set_option linter.all false
namespace Go.Proofs.YtkjbdagicjbjjaaGreat
section
variable {P:Program} {f:FuncId} {R:Ending→World→Prop}
theorem Eh.below {O:List Nat} {B:Nat} {w w':World} (h:Eh O B w w') {a:Nat} (d:a≤B) (b:∀ k∈O,a≤k):Go.RowKit.Below a w w':=
 ⟨h.os,h.tape,h.output,h.size,fun k c=>h.block k (by omega) fun hm=>by have:=b k hm; omega⟩
theorem NO (w:World) (mem:List Az) (hg:∀ e∈mem,e.good w) (hn:(mem.map (·.id)).Nodup):EB (mem.map (·.id)) w.heap.size w ⟨w.heap.size,mem,(0,0),[]⟩:=by
 refine ⟨⟨rfl,hg,fun i j e e' hi c _ a he=>?_⟩,Nat.le_refl _,fun e he _=>.inl (List.mem_map.2 ⟨e,he,rfl⟩)⟩
 have b:(mem.map (·.id))[i]?=some e.id:=by rw [List.getElem?_map,hi]; rfl
 have h2:(mem.map (·.id))[j]?=some e.id:=by rw [List.getElem?_map,c]; exact congrArg some he.symm
 exact a ((List.getElem?_inj (List.getElem?_eq_some_iff.1 b).1 hn).1 (b.trans h2.symm))
def Fx (n:Nat) (E:Nat→Value):List Item→Option Oper
 | .inRegion ops (i :: _) :: _=>match ops[i]? with
  | some o=>match Region.wanted o (HS n ops E) with
   | true=>some o
   | false=>none
  | none=>none
 | _=>none
theorem QL {n:Nat} {todo:List Item} {E:Nat→Value} {w w':World} {v:Value} (o:Oper) (hc:Fx n E todo=some o) (hx:(execOp (Ax n E) o).run P w=.ok (.value v) w') (h:At P f R (AC todo) (Fr n (Aq E o.dst v)) w'):At P f R todo (Fr n E) w:=by
 unfold Fx at hc
 split at hc
 ·rename_i ops i r k
  split at hc
  ·rename_i o' ho
   split at hc
   ·rename_i hw
    obtain rfl:=Option.some.inj hc
    refine FZ ho (by rw [FE]; exact hw) ?_
    unfold Oper.wp
    rw [Db,hx]
    show wpOps P ops _ r ((Fr n E).put o'.dst v) w'
    rw [EJ]
    exact h
   ·cases hc
  ·cases hc
 ·cases hc
def Hp (n:Nat) (E:Nat→Value) (todo:List Item):Option (FuncId×List Value×Option Tmp):=match Fx n E todo with
 | some o=>match o.op with
  | .call ⟨.value x,xs,_⟩=>match Ax n E x with
   | .func (.func g) ⟨first⟩ ⟨captured⟩=>some (g,first++(xs.toList.map (Ax n E)++captured),o.dst)
   | _=>none
  | _=>none
 | none=>none
theorem no {n:Nat} {todo:List Item} {E:Nat→Value} {w:World} (g:FuncId) (args:List Value) (dst:Option Tmp) (hc:Hp n E todo=some (g,args,dst)) (hg:DG P g=true)
  (h:Calls P g args.toArray w fun e w'=>∃ v,e=.returned v∧At P f R (AC todo) (Fr n (Aq E dst v)) w'):At P f R todo (Fr n E) w:=by
 unfold Hp at hc
 split at hc
 ·rename_i o hcur
  split at hc
  ·rename_i x xs ats ho
   split at hc
   ·rename_i g' first captured hx
    simp only [Option.some.injEq,Prod.mk.injEq] at hc
    obtain ⟨rfl,ha,rfl⟩:=hc
    unfold Fx at hcur
    split at hcur
    ·rename_i ops i r k
     split at hcur
     ·rename_i o' ho'
      split at hcur
      ·rename_i hw
       obtain rfl:=Option.some.inj hcur
       refine FZ ho' (by rw [FE]; exact hw) ?_
       unfold Oper.wp
       rw [Db]
       have e:(execOp (Ax n E) o').run P w=.ok (.enter g' args.toArray) w:=by
        rw [← CG (h:=hg) args.toArray w,← ha]
        have c:((⟨first⟩:Array Value)++xs.map (Ax n E))++(⟨captured⟩:Array Value)=(first++(xs.toList.map (Ax n E)++captured)).toArray:=by
         apply Array.ext'
         simp
        rw [← c]
        simp only [execOp,ho,resolve,hx]
        rfl
       rw [e]
       refine h.mono fun d w' b=>?_
       obtain ⟨v,rfl,a⟩:=b
       show wpOps P ops _ r ((Fr n E).put o'.dst v) w'
       rw [EJ]
       exact a
      ·cases hcur
     ·cases hcur
    ·cases hcur
   ·cases hc
  ·cases hc
 ·cases hc
def NV (n:Nat) (E:Nat→Value) (todo:List Item):Option (TypeId×Value×Option Tmp):=match Fx n E todo with
 | some o=>match o.op with
  | .load t x=>some (t,Ax n E x,o.dst)
  | _=>none
 | none=>none
theorem BI {n:Nat} {todo:List Item} {E:Nat→Value} {w:World} (t:TypeId) (b o:Nat) (a:List Value) (dst:Option Tmp) (c:w.rangeAt b o a) (h:At P f R (AC todo) (Fr n (Aq E dst (.agg ⟨a⟩))) w) (hc:NV n E todo=some (t,.pointer (some ⟨b,o,none⟩),dst):=by kernel_rfl) (h1:P1 P t=some true:=by kernel_rfl) (h2:JO P t=some a.length:=by kernel_rfl):At P f R todo (Fr n E) w:=by
 unfold NV at hc
 split at hc
 ·rename_i op hcur
  split at hc
  ·rename_i t' x ho
   simp only [Option.some.injEq,Prod.mk.injEq] at hc
   obtain ⟨rfl,hx,rfl⟩:=hc
   refine QL op hcur (v:=.agg ⟨a⟩) (w':=w) ?_ h
   have hl:=run_loadCells_list (P:=P) w ⟨b,o,none⟩ a fun j v d=>by
    rw [nu _ _ rfl]
    exact c j v d
   simp [execOp,ho,hx,Instr.loadAt,Instr.sureAddr,loadVar,RL h1,Gs h2,hl]
  ·cases hc
 ·cases hc
theorem Dh {n:Nat} {todo:List Item} {E:Nat→Value} {w:World} (t:TypeId) (b o:Nat) (v:Value) (dst:Option Tmp) (a:w.cell? ⟨b,o,none⟩=some v) (h:At P f R (AC todo) (Fr n (Aq E dst v)) w) (hc:NV n E todo=some (t,.pointer (some ⟨b,o,none⟩),dst):=by kernel_rfl) (h1:P1 P t=some false:=by kernel_rfl):At P f R todo (Fr n E) w:=by
 unfold NV at hc
 split at hc
 ·rename_i op hcur
  split at hc
  ·rename_i t' x ho
   simp only [Option.some.injEq,Prod.mk.injEq] at hc
   obtain ⟨rfl,hx,rfl⟩:=hc
   refine QL op hcur (v:=v) (w':=w) ?_ h
   simp [execOp,ho,hx,Instr.loadAt,Instr.sureAddr,loadVar,RL h1,load,Sem.run,a]
  ·cases hc
 ·cases hc
theorem El {n:Nat} {fn:Func} {E:Nat→Value} {w:World} {todo:List Item} (m:Nat) (v:Value) (hk:∀ w',Go.RowKit.Below w.heap.size w w'→R (.returned v) w') (hf:P.funcs[f]?=some fn:=by kernel_rfl) (he:(fun a:St=>(Px a.todo,a.ms.mem,a.ms.sz,a.ms.eqs,(DO P (FN fn n a.env) ⟨0,[],(0,0),[]⟩).map (fun r=>(r.1,r.2.eqs)))) (HL P n m ⟨todo,E,⟨w.heap.size,[],(0,0),[]⟩,[]⟩)=(true,[],w.heap.size,[],some (v,[])):=by kernel_rfl):At P f R todo (Fr n E) w:=by
 simp only [Prod.mk.injEq] at he
 obtain ⟨h1,h2,h3,h4,h5⟩:=he
 refine WX (O:=[]) (B:=w.heap.size) m ⟨todo,E,⟨w.heap.size,[],(0,0),[]⟩,[]⟩ (CH w) (by rw [h4]; rfl) fun w' hL' hK=>?_
 have h6:(DO P (FN fn n (HL P n m ⟨todo,E,⟨w.heap.size,[],(0,0),[]⟩,[]⟩).env) ⟨0,[],(0,0),[]⟩).map (·.1)=some v:=by
  cases hl:DO P (FN fn n (HL P n m ⟨todo,E,⟨w.heap.size,[],(0,0),[]⟩,[]⟩).env) ⟨0,[],(0,0),[]⟩ with
  | none=>rw [hl] at h5; cases h5
  | some r=>rw [hl] at h5; simp at h5; simp [h5.1]
 refine lS (fn:=fn) h1 hf ⟨0,[],(0,0),[]⟩ (fun e he=>(by cases he)) v h6 ?_ (hk w' (hK.below (Nat.le_refl _) (fun k hk=>by cases hk)))
 cases hl:DO P (FN fn n (HL P n m ⟨todo,E,⟨w.heap.size,[],(0,0),[]⟩,[]⟩).env) ⟨0,[],(0,0),[]⟩ with
 | none=>rfl
 | some r=>
  rw [hl] at h5
  simp at h5
  simp [h5.2]
end
end Go.Proofs.YtkjbdagicjbjjaaGreat
namespace Go.Proofs.YtkjbdagicjbjjaaGreat
open Go.RowKit
theorem Iq (c:UInt8) (w:World) :
  Calls Tryz.prog 121 #[.int .u8 c.toNat] w fun e w'=>e=.returned (.bool (Tk.isDig c))∧w=w':=by
 go_enter Tryz.func121,Tryz.ntmps121
 go_wp2
 all_goals
  go_ret
  refine ⟨Hi ?_,rfl⟩
  unfold Tk.isDig
  rw [Bool.eq_iff_iff]
  simp
  omega
theorem GY (c:UInt8) (w:World) :
  Calls Tryz.prog 120 #[.int .u8 c.toNat] w fun e w'=>e=.returned (.bool (Tk.isLow c))∧w=w':=by
 go_enter Tryz.func120,Tryz.ntmps120
 go_wp2
 all_goals
  go_ret
  refine ⟨Hi ?_,rfl⟩
  unfold Tk.isLow
  rw [Bool.eq_iff_iff]
  simp
  omega
attribute [local go_sem] lQ
theorem Vt (c:UInt8):Tk.isWord c=true↔(Tk.isLow c=true∨(Tk.isLow c=false∧Tk.isDig c=true)∨(Tk.isLow c=false∧Tk.isDig c=false∧c.toNat=95)):=by
 unfold Tk.isWord
 cases Tk.isLow c <;> cases Tk.isDig c <;> simp
theorem Vs {c:UInt8} (h:Tk.isWord c=false):Tk.isLow c=false∧Tk.isDig c=false∧((c.toNat:Int) == 95)=false:=by
 unfold Tk.isWord at h
 cases hl:Tk.isLow c <;> cases hd:Tk.isDig c <;> simp_all
 omega
set_option maxHeartbeats 400000 in
theorem LB (l:List UInt8) (w:World) (hs:l.length≤maxLen) :
  Calls Tryz.prog 102 #[.string ⟨l.toArray⟩] w fun e w'=>e=.returned (AI (Tk.wordLen l))∧w=w':=by
 unfold maxLen at hs
 cases l with
 | nil=>
  go_enter Tryz.func102,Tryz.ntmps102
  go_wp2
  go_ret
  exact ⟨rfl,rfl⟩
 | cons c r=>
  by_cases hc:Tk.isLow c=true
  ·have HC:=Lib.hid hc
   simp only [List.length_cons] at hs
   go_enter Tryz.func102,Tryz.ntmps102
   go_wp2_with ((go_at_call 120; refine (GY _ _).mono ?_; rintro e w' ⟨rfl,rfl⟩))
   clear hc
   go_loop [3] (fun n=>∃ k:Nat,k≤r.length∧n=AI (k + 1)∧Hid (∀ j (h:j < r.length),j < k→Tk.isWord r[j]=true)) (fun i=>r.length + 1 - (intOf i).toNat)
   case atStart=>exact ⟨0,Nat.zero_le _,rfl,fun _ _ h=>by omega⟩
   case round=>
    obtain ⟨k,hk,rfl,HA⟩:=hrel
    by_cases hlt:k < r.length
    ·by_cases hd:Tk.isWord r[k]=true
     ·have HD:=Lib.hid hd
      rcases (Vt _).1 hd with h1 | ⟨h1,h2⟩ | ⟨h1,h2,h3⟩
      all_goals clear hd
      ·go_wp2_with ((first | (go_at_call 120; refine (GY _ _).mono ?_; rintro e w' ⟨rfl,rfl⟩) | (go_at_call 121; refine (Iq _ _).mono ?_; rintro e w' ⟨rfl,rfl⟩)))
       go_round
       case rel=>exact ⟨k + 1,by omega,by go_num,fun j h hj=>if e:j=k then by subst e; exact HD.out else HA.out j h (by omega)⟩
       case measure=>simp [intOf]; omega
      ·go_wp2_with ((first | (go_at_call 120; refine (GY _ _).mono ?_; rintro e w' ⟨rfl,rfl⟩) | (go_at_call 121; refine (Iq _ _).mono ?_; rintro e w' ⟨rfl,rfl⟩)))
       go_round
       case rel=>exact ⟨k + 1,by omega,by go_num,fun j h hj=>if e:j=k then by subst e; exact HD.out else HA.out j h (by omega)⟩
       case measure=>simp [intOf]; omega
      ·have h4:((r[k].toNat:Int) == 95)=true:=by simp; omega
       clear h3
       go_wp2_with ((first | (go_at_call 120; refine (GY _ _).mono ?_; rintro e w' ⟨rfl,rfl⟩) | (go_at_call 121; refine (Iq _ _).mono ?_; rintro e w' ⟨rfl,rfl⟩)))
       go_round
       case rel=>exact ⟨k + 1,by omega,by go_num,fun j h hj=>if e:j=k then by subst e; exact HD.out else HA.out j h (by omega)⟩
       case measure=>simp [intOf]; omega
     ·have hd:Tk.isWord r[k]=false:=by simpa using hd
      have HD:=Lib.hid hd
      obtain ⟨h1,h2,h4⟩:=Vs hd
      clear hd
      go_wp2_with ((first | (go_at_call 120; refine (GY _ _).mono ?_; rintro e w' ⟨rfl,rfl⟩) | (go_at_call 121; refine (Iq _ _).mono ?_; rintro e w' ⟨rfl,rfl⟩)))
      go_ret
      exact ⟨EQ (by simp only [Tk.wordLen,HC.out,if_true]; rw [Tk.lead_eq _ _ k hk HA.out (fun _=>HD.out)]; omega),rfl⟩
    ·go_wp2_with fail
     go_ret
     exact ⟨EQ (by simp only [Tk.wordLen,HC.out,if_true]; rw [Tk.lead_eq _ _ k hk HA.out (fun h=>absurd h hlt)]; omega),rfl⟩
  ·have hc:Tk.isLow c=false:=by simpa using hc
   have HC:=Lib.hid hc
   go_enter Tryz.func102,Tryz.ntmps102
   go_wp2_with ((go_at_call 120; refine (GY _ _).mono ?_; rintro e w' ⟨rfl,rfl⟩))
   go_ret
   exact ⟨EQ (by simp [Tk.wordLen,HC.out]),rfl⟩
theorem Bk {l k:List UInt8} (h:Tk.isKey l=false) (a:k∈Tk.keywords):(l == k)=false:=by
 rw [beq_eq_false_iff_ne]
 rintro rfl
 unfold Tk.isKey at h
 rw [List.contains_iff_mem.2 a] at h
 cases h
set_option maxHeartbeats 2000000 in
theorem MH (l:List UInt8) (w:World) :
  Calls Tryz.prog 103 #[.string ⟨l.toArray⟩] w fun e w'=>e=.returned (.bool (Tk.isKey l))∧w=w':=by
 by_cases hk:Tk.isKey l=true
 ·have hm:l∈Tk.keywords:=List.contains_iff_mem.1 hk
  rw [hk]
  clear hk
  simp only [Tk.keywords,List.mem_cons,List.not_mem_nil,or_false] at hm
  rcases hm with rfl | rfl | rfl | rfl | rfl | rfl | rfl | rfl | rfl | rfl | rfl | rfl | rfl | rfl | rfl | rfl | rfl | rfl | rfl | rfl | rfl | rfl | rfl | rfl | rfl | rfl | rfl | rfl | rfl | rfl | rfl | rfl | rfl | rfl
  all_goals
   go_enter Tryz.func103,Tryz.ntmps103
   go_wp2
   go_ret
   exact ⟨rfl,rfl⟩
 ·have hk:Tk.isKey l=false:=by simpa using hk
  rw [hk]
  have k0:=Bk (k:=[97,103,114,101,101,109,101,110,116]) hk (by decide)
  have k1:=Bk (k:=[105,110,112,117,116]) hk (by decide)
  have k2:=Bk (k:=[112,97,115,116]) hk (by decide)
  have k3:=Bk (k:=[115,99,97,108,101]) hk (by decide)
  have k4:=Bk (k:=[114,117,108,101]) hk (by decide)
  have k5:=Bk (k:=[112,97,121]) hk (by decide)
  have k6:=Bk (k:=[102,114,111,109]) hk (by decide)
  have k7:=Bk (k:=[114,111,117,110,100,101,100]) hk (by decide)
  have k8:=Bk (k:=[116,111]) hk (by decide)
  have k9:=Bk (k:=[105,102]) hk (by decide)
  have k10:=Bk (k:=[116,104,101,110]) hk (by decide)
  have k11:=Bk (k:=[101,108,115,101]) hk (by decide)
  have k12:=Bk (k:=[97,110,100]) hk (by decide)
  have k13:=Bk (k:=[111,114]) hk (by decide)
  have k14:=Bk (k:=[110,111,116]) hk (by decide)
  have k15:=Bk (k:=[116,114,117,101]) hk (by decide)
  have k16:=Bk (k:=[102,97,108,115,101]) hk (by decide)
  have k17:=Bk (k:=[109,105,110]) hk (by decide)
  have k18:=Bk (k:=[109,97,120]) hk (by decide)
  have k19:=Bk (k:=[114,111,117,110,100]) hk (by decide)
  have k20:=Bk (k:=[97,118,101,114,97,103,101]) hk (by decide)
  have k21:=Bk (k:=[108,97,115,116]) hk (by decide)
  have k22:=Bk (k:=[109,111,110,101,121]) hk (by decide)
  have k23:=Bk (k:=[104,111,117,114,115]) hk (by decide)
  have k24:=Bk (k:=[100,97,121,115]) hk (by decide)
  have k25:=Bk (k:=[110,117,109,98,101,114]) hk (by decide)
  have k26:=Bk (k:=[98,111,111,108]) hk (by decide)
  have k27:=Bk (k:=[100,111,119,110]) hk (by decide)
  have k28:=Bk (k:=[117,112]) hk (by decide)
  have k29:=Bk (k:=[102,108,111,111,114]) hk (by decide)
  have k30:=Bk (k:=[99,101,105,108,105,110,103]) hk (by decide)
  have k31:=Bk (k:=[104,97,108,102,95,117,112]) hk (by decide)
  have k32:=Bk (k:=[104,97,108,102,95,100,111,119,110]) hk (by decide)
  have k33:=Bk (k:=[104,97,108,102,95,101,118,101,110]) hk (by decide)
  clear hk
  go_enter Tryz.func103,Tryz.ntmps103
  go_wp2
  go_ret
  exact ⟨rfl,rfl⟩
end Go.Proofs.YtkjbdagicjbjjaaGreat
namespace Go.Proofs
open Go.Shelf
def Tryz.lays129_ren:Go.Shelf.Ren:=⟨fun | 129=>143 | n=>n,fun | 53=>164 | 3=>3 | 4=>4 | 46=>169 | 5=>5 | 9=>9 | n=>n,fun | n=>n⟩
theorem Tryz.lays129:Go.Proofs.Lays.n129 Tryz.prog Tryz.lays129_ren:={
 mixed:=by kernel_rfl
 f129:=Tryz.func143.trans (congrArg some (by kernel_rfl))
 t3:=Tryz.underlying3
 a3:=Tryz.isAgg3
 z3:=Tryz.sizeOf3
 v3:=Tryz.zeroValue3
 t4:=Tryz.underlying4
 a4:=Tryz.isAgg4
 z4:=Tryz.sizeOf4
 v4:=Tryz.zeroValue4
 t5:=Tryz.underlying5
 a5:=Tryz.isAgg5
 z5:=Tryz.sizeOf5
 v5:=Tryz.zeroValue5
 t9:=Tryz.underlying9
 a9:=Tryz.isAgg9
 z9:=Tryz.sizeOf9
 v9:=Tryz.zeroValue9
 t46:=Tryz.underlying169
 a46:=Tryz.isAgg169
 z46:=Tryz.sizeOf169
 v46:=Tryz.zeroValue169
 t53:=Tryz.underlying164
 a53:=Tryz.isAgg164
 z53:=Tryz.sizeOf164
 v53:=Tryz.zeroValue164 }
theorem Tryz.bits_Len64 (x:Int) (w:World) (b:0≤x) (a:x≤18446744073709551615) :
  Calls Tryz.prog 143 #[.int .u64 x] w fun e w'=>e=.returned (.int .i64 (Lib.bitLen x.toNat))∧w'=w:=Any.bits_Len64 Tryz.lays129 x w b a
def Tryz.lays189_ren:Go.Shelf.Ren:=⟨fun | 189=>85 | 125=>114 | 257=>113 | 128=>142 | 129=>143 | 294=>133 | 295=>134 | 296=>135 | 297=>136 | 298=>137 | 299=>138 | 216=>139 | 300=>140 | 301=>141 | 328=>152 | 329=>153 | 330=>154 | 331=>155 | 332=>156 | 215=>118 | 343=>158 | n=>n,fun | 28=>22 | 3=>3 | 46=>169 | 0=>0 | 51=>203 | 53=>164 | 4=>4 | 183=>196 | 182=>195 | 131=>75 | 5=>5 | 9=>9 | 218=>212 | 222=>215 | 228=>218 | 229=>219 | n=>n,fun | n=>n⟩
theorem Tryz.lays189:Go.Proofs.Lays.n189 Tryz.prog Tryz.lays189_ren:={
 mixed:=by kernel_rfl
 f125:=Tryz.func114.trans (congrArg some (by kernel_rfl))
 f128:=Tryz.func142.trans (congrArg some (by kernel_rfl))
 f129:=Tryz.func143.trans (congrArg some (by kernel_rfl))
 f189:=Tryz.func85.trans (congrArg some (by kernel_rfl))
 f215:=Tryz.func118.trans (congrArg some (by kernel_rfl))
 f216:=Tryz.func139.trans (congrArg some (by kernel_rfl))
 f257:=Tryz.func113.trans (congrArg some (by kernel_rfl))
 f294:=Tryz.func133.trans (congrArg some (by kernel_rfl))
 f295:=Tryz.func134.trans (congrArg some (by kernel_rfl))
 f296:=Tryz.func135.trans (congrArg some (by kernel_rfl))
 f297:=Tryz.func136.trans (congrArg some (by kernel_rfl))
 f298:=Tryz.func137.trans (congrArg some (by kernel_rfl))
 f299:=Tryz.func138.trans (congrArg some (by kernel_rfl))
 f300:=Tryz.func140.trans (congrArg some (by kernel_rfl))
 f301:=Tryz.func141.trans (congrArg some (by kernel_rfl))
 f328:=Tryz.func152.trans (congrArg some (by kernel_rfl))
 f329:=Tryz.func153.trans (congrArg some (by kernel_rfl))
 f330:=Tryz.func154.trans (congrArg some (by kernel_rfl))
 f331:=Tryz.func155.trans (congrArg some (by kernel_rfl))
 f332:=Tryz.func156.trans (congrArg some (by kernel_rfl))
 f343:=Tryz.func158.trans (congrArg some (by kernel_rfl))
 t0:=Tryz.underlying0
 a0:=Tryz.isAgg0
 z0:=Tryz.sizeOf0
 v0:=Tryz.zeroValue0
 t3:=Tryz.underlying3
 a3:=Tryz.isAgg3
 z3:=Tryz.sizeOf3
 v3:=Tryz.zeroValue3
 t4:=Tryz.underlying4
 a4:=Tryz.isAgg4
 z4:=Tryz.sizeOf4
 v4:=Tryz.zeroValue4
 t5:=Tryz.underlying5
 a5:=Tryz.isAgg5
 z5:=Tryz.sizeOf5
 v5:=Tryz.zeroValue5
 t9:=Tryz.underlying9
 a9:=Tryz.isAgg9
 z9:=Tryz.sizeOf9
 v9:=Tryz.zeroValue9
 t28:=Tryz.underlying22
 a28:=Tryz.isAgg22
 z28:=Tryz.sizeOf22
 v28:=Tryz.zeroValue22
 t46:=Tryz.underlying169
 a46:=Tryz.isAgg169
 z46:=Tryz.sizeOf169
 v46:=Tryz.zeroValue169
 t51:=Tryz.underlying203
 a51:=Tryz.isAgg203
 z51:=Tryz.sizeOf203
 v51:=Tryz.zeroValue203
 t53:=Tryz.underlying164
 a53:=Tryz.isAgg164
 z53:=Tryz.sizeOf164
 v53:=Tryz.zeroValue164
 t131:=Tryz.underlying75
 a131:=Tryz.isAgg75
 z131:=Tryz.sizeOf75
 v131:=Tryz.zeroValue75
 t182:=Tryz.underlying195
 a182:=Tryz.isAgg195
 z182:=Tryz.sizeOf195
 v182:=Tryz.zeroValue195
 t183:=Tryz.underlying196
 a183:=Tryz.isAgg196
 z183:=Tryz.sizeOf196
 v183:=Tryz.zeroValue196
 t218:=Tryz.underlying212
 a218:=Tryz.isAgg212
 z218:=Tryz.sizeOf212
 v218:=Tryz.zeroValue212
 t222:=Tryz.underlying215
 a222:=Tryz.isAgg215
 z222:=Tryz.sizeOf215
 v222:=Tryz.zeroValue215
 t228:=Tryz.underlying218
 a228:=Tryz.isAgg218
 z228:=Tryz.sizeOf218
 v228:=Tryz.zeroValue218
 t229:=Tryz.underlying219
 a229:=Tryz.isAgg219
 z229:=Tryz.sizeOf219
 v229:=Tryz.zeroValue219 }
open Go.Sort Go.RowKit in
theorem Tryz.slices_Sort_int (blk off cap:Nat) (zs:List Int) (w:World) (hH:Holds (Value.int .i64) w blk off zs.toArray) (hblk:blk < w.heap.size) (hsz:zs.length < 4611686018427387904) :
  Calls Tryz.prog 85 #[.slice (some ⟨blk,off,none⟩) zs.length cap] w fun e w'=>
   e=.returned (.tuple #[])∧∃ n os,w'=grow (putRow (Value.int .i64) (Sort.ahead w n) blk off (zs.mergeSort fun x y=>decide (x≤y)).toArray) os:=Any.slices_Sort_int Tryz.lays189 blk off cap zs w hH hblk hsz
def Tryz.lays264_ren:Go.Shelf.Ren:=⟨fun | 264=>146 | n=>n,fun | 53=>164 | 46=>169 | n=>n,fun | n=>n⟩
theorem Tryz.lays264:Go.Proofs.Lays.n264 Tryz.prog Tryz.lays264_ren:={
 mixed:=by kernel_rfl
 f264:=Tryz.func146.trans (congrArg some (by kernel_rfl))
 t46:=Tryz.underlying169
 a46:=Tryz.isAgg169
 z46:=Tryz.sizeOf169
 v46:=Tryz.zeroValue169
 t53:=Tryz.underlying164
 a53:=Tryz.isAgg164
 z53:=Tryz.sizeOf164
 v53:=Tryz.zeroValue164 }
open Go.RowKit Go.Lib in
theorem Tryz.bits_Mul64 (x y:Nat) (hx:x < 18446744073709551616) (hy:y < 18446744073709551616) (w:World) :
  Calls Tryz.prog 146 #[.int .u64 x,.int .u64 y] w fun e w'=>e=.returned (.tuple #[.int .u64 ((x * y / 18446744073709551616:Nat):Int),.int .u64 ((x * y % 18446744073709551616:Nat):Int)])∧w'=w:=Any.bits_Mul64 Tryz.lays264 x y hx hy w
def Tryz.laysNm220_ren:Go.Shelf.Ren:=⟨fun | 20=>86 | n=>n,fun | 22=>22 | 3=>3 | 4=>4 | 0=>0 | n=>n,fun | n=>n⟩
theorem Tryz.laysNm220:Go.Proofs.Lays2.n20 Tryz.prog Tryz.laysNm220_ren:={
 mixed:=by kernel_rfl
 f20:=Tryz.func86.trans (congrArg some (by kernel_rfl))
 t0:=Tryz.underlying0
 a0:=Tryz.isAgg0
 z0:=Tryz.sizeOf0
 v0:=Tryz.zeroValue0
 t3:=Tryz.underlying3
 a3:=Tryz.isAgg3
 z3:=Tryz.sizeOf3
 v3:=Tryz.zeroValue3
 t4:=Tryz.underlying4
 a4:=Tryz.isAgg4
 z4:=Tryz.sizeOf4
 v4:=Tryz.zeroValue4
 t22:=Tryz.underlying22
 a22:=Tryz.isAgg22
 z22:=Tryz.sizeOf22
 v22:=Tryz.zeroValue22
 i3:=by kernel_rfl }
open Go.RowKit Go.Lib Go.Sort in
theorem Tryz.slices_Compact_int (blk off cap:Nat) (zs:List Int) (w:World) (hH:Holds (Value.int .i64) w blk off zs.toArray) (hsz:zs.length≤9223372036854775807) (hcap:zs.length≤cap) :
  Calls Tryz.prog 86 #[.slice (some ⟨blk,off,none⟩) zs.length cap] w fun e w'=>e=.returned (.slice (some ⟨blk,off,none⟩) (Lib.compact zs).length cap)∧∃ q,w'=putRow (Value.int .i64) (Sort.ahead w q) blk off (Lib.compact zs++List.replicate (zs.length - (Lib.compact zs).length) 0).toArray:=Any.slices_Compact_int Tryz.laysNm220 blk off cap zs w hH hsz hcap
open Go.RowKit Go.Lib Go.Sort in
theorem Tryz.slices_Compact_int_empty (a:Option Addr) (cap:Nat) (w:World) :
  Calls Tryz.prog 86 #[.slice a 0 cap] w fun e w'=>e=.returned (.slice a 0 cap)∧w'=w:=Any.slices_Compact_int_empty Tryz.laysNm220 a cap w
end Go.Proofs
namespace Go.Proofs.YtkjbdagicjbjjaaGreat
open Go.RowKit
attribute [local go_sem] lQ eM eZ
set_option maxHeartbeats 1000000 in
theorem dp (l:List UInt8) (w:World) (hs:l.length≤maxLen) :
  Calls Tryz.prog 70 #[.string ⟨l.toArray⟩] w fun e w'=>e=.returned (.bool (Tk.isName l))∧w=w':=by
 have hs':=hs
 unfold maxLen at hs
 by_cases h0:0 < l.length
 ·by_cases h1:l.length≤24
  ·by_cases h2:Tk.wordLen l=l.length
   ·have hn:Tk.isName l=!Tk.isKey l:=by simp [Tk.isName,h0,h1,h2]
    rw [hn]
    have h3:((Tk.wordLen l:Int) == l.length)=true:=by simp; omega
    clear hn h2
    go_enter Tryz.func70,Tryz.ntmps70
    go_wp2_with ((first | (go_at_call 102; refine (LB _ _ hs').mono ?_; rintro e w' ⟨rfl,rfl⟩) | (go_at_call 103; refine (MH _ _).mono ?_; rintro e w' ⟨rfl,rfl⟩)))
    go_ret
    exact ⟨rfl,rfl⟩
   ·have hn:Tk.isName l=false:=by simp [Tk.isName,h2]
    rw [hn]
    have h3:((Tk.wordLen l:Int) == l.length)=false:=by simp; omega
    clear hn h2
    go_enter Tryz.func70,Tryz.ntmps70
    go_wp2_with ((first | (go_at_call 102; refine (LB _ _ hs').mono ?_; rintro e w' ⟨rfl,rfl⟩) | (go_at_call 103; refine (MH _ _).mono ?_; rintro e w' ⟨rfl,rfl⟩)))
    go_ret
    exact ⟨rfl,rfl⟩
  ·have hn:Tk.isName l=false:=by simp [Tk.isName,h1]
   rw [hn]
   clear hn
   go_enter Tryz.func70,Tryz.ntmps70
   go_wp2_with fail
   go_ret
   exact ⟨rfl,rfl⟩
 ·have hn:Tk.isName l=false:=by simp [Tk.isName,h0]
  rw [hn]
  clear hn
  go_enter Tryz.func70,Tryz.ntmps70
  go_wp2_with fail
  go_ret
  exact ⟨rfl,rfl⟩
end Go.Proofs.YtkjbdagicjbjjaaGreat
namespace Go.Proofs.YtkjbdagicjbjjaaGreat
open Go.RowKit
set_option maxHeartbeats 1000000 in
theorem NQ (a b:Nat) (w:World) (ha:a≤18446744073709551615) (hb:b≤18446744073709551615) :
  Calls Tryz.prog 94 #[.int .u64 a,.int .u64 b] w fun e w'=>e=.returned (.int .u64 (Nat.gcd a b))∧∃ n,w'=w.drewN n:=by
 generalize hG:Nat.gcd a b=G
 have HG:=Lib.hid hG
 clear hG
 go_enter Tryz.func94,Tryz.ntmps94
 go_wp2_with fail
 go_loopw [0,1] (fun p q wr=>∃ x y n:Nat,x≤18446744073709551615∧y≤18446744073709551615∧p=.int .u64 x∧q=.int .u64 y∧Hid (Nat.gcd x y=G)∧wr=w.drewN n) (fun _ q _=>(intOf q).toNat)
 case atStart=>exact ⟨a,b,0,ha,hb,rfl,rfl,HG,rfl⟩
 case round=>
  obtain ⟨x,y,n,hx,hy,rfl,rfl,HX,rfl⟩:=hrel
  by_cases hy0:y=0
  ·subst hy0
   go_wp2_with fail
   go_ret
   exact ⟨EQ (by rw [← HX.out]; simp),n,rfl⟩
  ·have g1:((y:Int) != 0)=true:=by simp; omega
   have g2:((y:Int) == 0)=false:=by simp; omega
   have hyp:1≤y:=by omega
   have hm:=Nat.mod_lt x hyp
   have HN:Hid (Nat.gcd y (x % y)=G):=by
    show _=_
    rw [← HX.out,Nat.gcd_comm x y,Nat.gcd_rec y x,Nat.gcd_comm]
   clear hy0
   go_wp2_with fail
   go_quiet (fail)
   go_wp2_with fail
   go_roundw
   case rel=>exact ⟨y,x % y,_,by omega,by omega,rfl,by go_num,HN,World.drewN_drewN _ _ _⟩
   case measure=>simp [intOf]; omega
theorem Ru (n:Int) (w:World) (b:-4000000000000000000≤n) (a:n≤4000000000000000000) :
  Calls Tryz.prog 95 #[AI n] w fun e w'=>e=.returned (.int .u64 (n.natAbs:Nat))∧w=w':=by
 by_cases hn:n < 0
 ·go_enter Tryz.func95,Tryz.ntmps95
  go_wp2_with fail
  go_ret
  refine ⟨EQ ?_,rfl⟩
  simp only [IntKind.wrap_u64]
  omega
 ·go_enter Tryz.func95,Tryz.ntmps95
  go_wp2_with fail
  go_ret
  exact ⟨EQ (by first | omega | (simp only [IntKind.wrap_u64]; omega)),rfl⟩
def Ad (n d:Int):Bool:=decide (1≤d∧d≤1000000∧-1000000000000≤n∧n≤1000000000000∧Nat.gcd n.natAbs d.natAbs=1)
set_option maxHeartbeats 1000000 in
theorem Bh (n d:Int) (w:World) :
  Calls Tryz.prog 63 #[.agg #[AI n,AI d]] w fun e w'=>e=.returned (.bool (Ad n d))∧Below w.heap.size w w':=by
 by_cases h1:d < 1
 ·have HF:Hid (Ad n d=false):=decide_eq_false (by omega)
  go_enter Tryz.func63,Tryz.ntmps63
  go_wp2_with fail
  go_ret
  exact ⟨Hi HF.out.symm,(Below.refl _ _).alloc (Nat.le_refl _) _⟩
 by_cases h2:1000000 < d
 ·have HF:Hid (Ad n d=false):=decide_eq_false (by omega)
  go_enter Tryz.func63,Tryz.ntmps63
  go_wp2_with fail
  go_ret
  exact ⟨Hi HF.out.symm,(Below.refl _ _).alloc (Nat.le_refl _) _⟩
 by_cases h3:n < -1000000000000
 ·have HF:Hid (Ad n d=false):=decide_eq_false (by omega)
  go_enter Tryz.func63,Tryz.ntmps63
  go_wp2_with fail
  go_ret
  exact ⟨Hi HF.out.symm,(Below.refl _ _).alloc (Nat.le_refl _) _⟩
 by_cases h4:1000000000000 < n
 ·have HF:Hid (Ad n d=false):=decide_eq_false (by omega)
  go_enter Tryz.func63,Tryz.ntmps63
  go_wp2_with fail
  go_ret
  exact ⟨Hi HF.out.symm,(Below.refl _ _).alloc (Nat.le_refl _) _⟩
 ·obtain ⟨k,rfl⟩:=Int.eq_ofNat_of_zero_le (show 0≤d by omega)
  have HF:Hid (Ad n k=(((Nat.gcd n.natAbs k:Nat):Int) == 1)):=by
   show _=_
   unfold Ad
   rw [Bool.eq_iff_iff]
   simp
   omega
  go_enter Tryz.func63,Tryz.ntmps63
  go_wp2_with fail
  go_quiet ((first | (go_at_call 95; exact Pk (Ru _ _ (by omega) (by omega))) | (go_at_call 94; exact Calls.quiet_of (NQ _ _ _ (by omega) (by omega)))))
  go_wp2_with fail
  go_ret
  exact ⟨Hi HF.out.symm,Fi ((Below.refl _ _).alloc (Nat.le_refl _) _) _⟩
end Go.Proofs.YtkjbdagicjbjjaaGreat
namespace Go.Proofs.YtkjbdagicjbjjaaGreat
open Go.RowKit
set_option maxRecDepth 100000
theorem CO {w w':World} (h:Eh [] w.heap.size w w'):Below w.heap.size w w':=⟨h.os,h.tape,h.output,h.size,fun k a=>h.block k a (by simp)⟩
theorem QK {w w':World} (h:w=w'):Below w.heap.size w w':=h ▸ Below.refl _ _
theorem CB {M:List Az} {w w':World} (h:∀ e∈M,e.good w) (B:Below w.heap.size w w'):∀ e∈M,e.good w':=fun e he=>by
 have hg:=h e he
 refine ⟨Nat.lt_of_lt_of_le hg.1 B.size,?_⟩
 have h2:=hg.2
 split at h2
 ·rename_i ho; rw [if_pos ho,B.block e.id hg.1]; exact h2
 ·rename_i ho
  rw [if_neg ho]
  exact fun j v hv=>(World.cell?_of_block (B.block e.id hg.1)).trans (h2 j v hv)
def Ky (q:Nat):List Item→Bool
 | .code (.region i _ _) :: _=>Nat.beq i q
 | _=>false
def JV (q:Nat):Nat→List Item→Nat
 | 0,_=>0
 | m + 1,t=>match Ky q t with
  | true=>0
  | false=>match NJ t with
   | some t'=>JV q m t' + 1
   | none=>0
noncomputable def Ai (q:Nat) (t:List Item):List Item:=AA (JV q 90 t) t
section
variable {P:Program} {o:Oper} {ρ:Operand→Value} {w:World}
theorem Rj (a b:List UInt8):((⟨⟨a⟩⟩:ByteArray).toList == (⟨⟨b⟩⟩:ByteArray).toList)=decide (a=b):=by
 have e:((⟨⟨a⟩⟩:ByteArray) == ⟨⟨b⟩⟩)=decide (a=b):=by
  show ((⟨a⟩:Array UInt8) == ⟨b⟩)=decide (a=b)
  by_cases hab:a=b
  ·subst hab; simp
  ·rw [decide_eq_false hab,beq_eq_false_iff_ne]
   intro h2
   exact hab (by injection h2)
 rw [beq_toListBytes] at e
 exact e
theorem Mr {T T':TypeId} {x y:Operand} {a b:List UInt8} (hop:o.op=.binOp .neq T x y T') (hx:ρ x=By a) (c:ρ y=By b):(execOp ρ o).run P w=.ok (.value (.bool (!(decide (a=b))))) w:=by
 unfold execOp
 simp only [hop,hx,c]
 unfold binOp Op.stringOp
 have e:=Rj a b
 simp only [eqGuard,e]
 rfl
theorem Gw {T T':TypeId} {x y:Operand} {a b:List UInt8} (hop:o.op=.binOp .eql T x y T':=by kernel_rfl) (hx:ρ x=By a:=by kernel_rfl) (hy:ρ y=By b:=by kernel_rfl):(execOp ρ o).run P w=.ok (.value (.bool (decide (a=b)))) w:=by
 unfold execOp
 simp only [hop,hx,hy]
 unfold binOp Op.stringOp
 have e:=Rj a b
 simp only [eqGuard,e]
 rfl
theorem L6 {T T':TypeId} {x y:Operand} {a b:Int} (hop:o.op=.binOp .rem T x y T') (hx:ρ x=AI a) (c:ρ y=AI b) (hb:b≠0):(execOp ρ o).run P w=.ok (.value (AI (a.tmod b))) w:=by
 unfold execOp
 simp [hop,hx,c,binOp,Op.intDiv,hb,eqGuard]
theorem Cy {k:BinOp} {T:TypeId} {a b r:Value} (h2:(binOp k T a b).run P w=.ok r w) (c:(execOp ρ o).run P w=(binOp k T a b >>= fun v=>(pure (.value v):Sem Next)).run P w:=by kernel_rfl):(execOp ρ o).run P w=.ok (.value r) w:=by
 rw [c,Sem.run_bind,h2]
 rfl
end
section
variable {P:Program} {f:FuncId} {R:Ending→World→Prop}
def su (n:Nat) (E:Nat→Value) (todo:List Item):Option (TypeId×Value×Value×Option Tmp):=match Fx n E todo with
 | some o=>match o.op with
  | .indexAddr t x i=>some (t,Ax n E x,Ax n E i,o.dst)
  | _=>none
 | none=>none
theorem BZ {P:Program} {o:Oper} {ρ:Operand→Value} {w:World} (T:TypeId) (x i:Operand) {g off len cap k sz:Nat} {e:TypeId} (b:k < len) (c:P.underlying T=some (.slice e)) (hop:o.op=.indexAddr T x i:=by kernel_rfl) (hx:ρ x=.slice (some ⟨g,off,none⟩) len cap:=by kernel_rfl) (hi:ρ i=AI k:=by kernel_rfl) (hs:(P.info? e).map (·.size)=some sz:=by kernel_rfl):(execOp ρ o).run P w=.ok (.value (.pointer (some ⟨g,off + k * sz,none⟩))) w:=by
 unfold execOp
 cases hq:P.info? e with
 | none=>rw [hq] at hs; cases hs
 | some inf=>
  have a:inf.size=sz:=by rw [hq] at hs; exact Option.some.inj hs
  simp [hop,hx,hi,Instr.indexAt,asIntOf,run_underlying c,b,sizeOf,typeInfo,hq,a,Addr.add]
  try (intro d; simp [d])
theorem Au {n:Nat} {todo:List Item} {E:Nat→Value} {w:World} {g off len cap k sz:Nat} {T e:TypeId} (dst:Option Tmp) (a:k < len) (b:P.underlying T=some (.slice e)) (h:At P f R (AC todo) (Fr n (Aq E dst (.pointer (some ⟨g,off + k * sz,none⟩)))) w) (hc:su n E todo=some (T,.slice (some ⟨g,off,none⟩) len cap,AI k,dst):=by kernel_rfl) (hs:(P.info? e).map (·.size)=some sz:=by kernel_rfl):At P f R todo (Fr n E) w:=by
 unfold su at hc
 split at hc
 ·rename_i o hcur
  split at hc
  ·rename_i t x i ho
   simp only [Option.some.injEq,Prod.mk.injEq] at hc
   obtain ⟨rfl,hx,hi,rfl⟩:=hc
   exact QL o hcur (v:=.pointer (some ⟨g,off + k * sz,none⟩)) (w':=w) (BZ t x i (hop:=ho) (hx:=hx) (hi:=hi) a b (hs:=hs)) h
  ·cases hc
 ·cases hc
end
def Gj (p:Op→Bool):List Item→Bool
 | .inRegion ops (i :: _) :: _=>match ops[i]? with
  | some o=>p o.op
  | none=>false
 | _=>false
def Ak (p:Op→Bool):Nat→List Item→Nat
 | 0,_=>0
 | m + 1,t=>match Gj p t with
  | true=>0
  | false=>match NJ t with
   | some t'=>Ak p m t' + 1
   | none=>0
def EO:Op→Bool
 | .binOp .eql _ _ _ _=>true
 | _=>false
def Aa:Op→Bool
 | .indexAddr _ _ _=>true
 | _=>false
def Vu:Op→Bool
 | .slice _ _ _ _ _=>true
 | _=>false
def Br:List Item→Oper
 | .inRegion ops (i :: _) :: _=>ops.getD i default
 | _=>default
def AK (v:Value):Nat:=match v with
 | .int _ n=>n.toNat
 | _=>0
theorem Bc (i:Nat) (h:i≤4294967296):IntKind.i64.wrap ((i:Int) + 1)=((i + 1:Nat):Int):=by rw [IntWalk.i64_in _ (by omega)]; omega
theorem Ej (w:World) (a b d c:Int):(binOp .eql 41 (.agg #[AI a,AI b]) (.agg #[AI d,AI c])).run Tryz.prog w=.ok (.bool (a == d && b == c)) w:=by
 simp [go_sem]
 repeat' split
 all_goals simp_all
theorem Ic (w:World) (a b c f e d:Int):(binOp .eql 50 (.agg #[AI a,AI b,AI c]) (.agg #[AI f,AI e,AI d])).run Tryz.prog w=.ok (.bool (a == f && (b == e && c == d))) w:=by
 simp [go_sem]
 repeat' split
 all_goals simp_all
theorem D5 (w:World) (t:Bool) (a b c:Int) (d:Bool) (g f e:Int):(binOp .eql 56 (.agg #[.bool t,AI a,AI b,AI c]) (.agg #[.bool d,AI g,AI f,AI e])).run Tryz.prog w=.ok (.bool (t == d && (a == g && (b == f && c == e)))) w:=by
 simp [go_sem]
 repeat' split
 all_goals simp_all
theorem PZ (w:World) (a b d c:Int):(binOp .neq 41 (.agg #[AI a,AI b]) (.agg #[AI d,AI c])).run Tryz.prog w=.ok (.bool (!(a == d && b == c))) w:=by
 simp [go_sem]
 repeat' split
 all_goals simp_all
theorem LH (w:World) (a b c f e d:Int):(binOp .neq 50 (.agg #[AI a,AI b,AI c]) (.agg #[AI f,AI e,AI d])).run Tryz.prog w=.ok (.bool (!(a == f && (b == e && c == d)))) w:=by
 simp [go_sem]
 repeat' split
 all_goals simp_all
theorem Qf (w:World) (t:Bool) (a b c:Int) (d:Bool) (g f e:Int):(binOp .neq 56 (.agg #[.bool t,AI a,AI b,AI c]) (.agg #[.bool d,AI g,AI f,AI e])).run Tryz.prog w=.ok (.bool (!(t == d && (a == g && (b == f && c == e))))) w:=by
 simp [go_sem]
 repeat' split
 all_goals simp_all
end Go.Proofs.YtkjbdagicjbjjaaGreat

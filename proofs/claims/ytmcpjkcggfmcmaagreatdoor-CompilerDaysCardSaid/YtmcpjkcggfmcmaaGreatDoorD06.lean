/-
  Part 6 of a proof: contracts of functions.
-/
import Derived.Test.YtmcpjkcggfmcmaaGreatDoorD05
import Derived.Deep.QuietTactic
import Derived.BigQuiet
import Derived.IntWalk
set_option linter.all false
namespace Go.Proofs.YtmcpjkcggfmcmaaGreatDoor
open Go.RowKit
attribute [local go_sem] dy ZX Zi
set_option maxHeartbeats 1000000 in
theorem ZB (l:List UInt8) (w:World) (hs:l.length≤maxLen) :
  Calls Tryz.prog 42 #[.string ⟨l.toArray⟩] w fun e w'=>e=.returned (.bool (Tk.isName l))∧w=w':=by
 have hs':=hs
 unfold maxLen at hs
 by_cases h0:0 < l.length
 ·by_cases h1:l.length≤24
  ·by_cases h2:Tk.wordLen l=l.length
   ·have hn:Tk.isName l=!Tk.isKey l:=by simp [Tk.isName,h0,h1,h2]
    rw [hn]
    have h3:((Tk.wordLen l:Int) == l.length)=true:=by simp; omega
    clear hn h2
    go_enter Tryz.func42,Tryz.ntmps42
    go_wp2_with ((first | (go_at_call 74; refine (Kv _ _ hs').mono ?_; rintro e w' ⟨rfl,rfl⟩) | (go_at_call 75; refine (ME _ _).mono ?_; rintro e w' ⟨rfl,rfl⟩)))
    go_ret
    exact ⟨rfl,rfl⟩
   ·have hn:Tk.isName l=false:=by simp [Tk.isName,h2]
    rw [hn]
    have h3:((Tk.wordLen l:Int) == l.length)=false:=by simp; omega
    clear hn h2
    go_enter Tryz.func42,Tryz.ntmps42
    go_wp2_with ((first | (go_at_call 74; refine (Kv _ _ hs').mono ?_; rintro e w' ⟨rfl,rfl⟩) | (go_at_call 75; refine (ME _ _).mono ?_; rintro e w' ⟨rfl,rfl⟩)))
    go_ret
    exact ⟨rfl,rfl⟩
  ·have hn:Tk.isName l=false:=by simp [Tk.isName,h1]
   rw [hn]
   clear hn
   go_enter Tryz.func42,Tryz.ntmps42
   go_wp2_with fail
   go_ret
   exact ⟨rfl,rfl⟩
 ·have hn:Tk.isName l=false:=by simp [Tk.isName,h0]
  rw [hn]
  clear hn
  go_enter Tryz.func42,Tryz.ntmps42
  go_wp2_with fail
  go_ret
  exact ⟨rfl,rfl⟩
end Go.Proofs.YtmcpjkcggfmcmaaGreatDoor
namespace Go.Proofs.YtmcpjkcggfmcmaaGreatDoor
open Go.RowKit
set_option maxHeartbeats 1000000 in
theorem mm (a b:Nat) (w:World) (ha:a≤4000000000000000000) (hb:b≤4000000000000000000) :
  Calls Tryz.prog 99 #[.int .u64 a,.int .u64 b] w fun e w'=>e=.returned (.int .u64 (Nat.gcd a b))∧∃ n,w'=w.drewN n:=by
 generalize hG:Nat.gcd a b=G
 have HG:=Lib.hid hG
 clear hG
 go_enter Tryz.func99,Tryz.ntmps99
 go_wp2_with fail
 go_loopw [0,1] (fun p q wr=>∃ x y n:Nat,x≤4000000000000000000∧y≤4000000000000000000∧p=.int .u64 x∧q=.int .u64 y∧Hid (Nat.gcd x y=G)∧wr=w.drewN n) (fun _ q _=>(intOf q).toNat)
 case atStart=>exact ⟨a,b,0,ha,hb,rfl,rfl,HG,rfl⟩
 case round=>
  obtain ⟨x,y,n,hx,hy,rfl,rfl,HX,rfl⟩:=hrel
  by_cases hy0:y=0
  ·subst hy0
   go_wp2_with fail
   go_ret
   exact ⟨Hi (by rw [← HX.out]; simp),n,rfl⟩
  ·have g1:((y:Int) != 0)=true:=by simp; omega
   have g2:((y:Int) == 0)=false:=by simp; omega
   have hyp:1≤y:=by omega
   have hm:=Nat.mod_lt x hyp
   have HN:Hid (Nat.gcd y (x % y)=G):=by
    show _=_
    rw [← HX.out,Nat.gcd_comm x y,Nat.gcd_rec y x,Nat.gcd_comm]
   clear hy0
   go_wp2_with fail
   go_quiet (fail)
   go_wp2_with fail
   go_roundw
   case rel=>exact ⟨y,x % y,_,by omega,by omega,rfl,by go_num,HN,World.drewN_drewN _ _ _⟩
   case measure=>simp [intOf]; omega
theorem Ri (n:Int) (w:World) (b:-4000000000000000000≤n) (a:n≤4000000000000000000) :
  Calls Tryz.prog 100 #[D n] w fun e w'=>e=.returned (.int .u64 (n.natAbs:Nat))∧w=w':=by
 by_cases hn:n < 0
 ·go_enter Tryz.func100,Tryz.ntmps100
  go_wp2_with fail
  go_ret
  refine ⟨Hi ?_,rfl⟩
  simp only [IntKind.wrap_u64]
  omega
 ·go_enter Tryz.func100,Tryz.ntmps100
  go_wp2_with fail
  go_ret
  exact ⟨Hi (by first | omega | (simp only [IntKind.wrap_u64]; omega)),rfl⟩
def Db (n d:Int):Bool:=decide (1≤d∧d≤1000000∧-1000000000000≤n∧n≤1000000000000∧Nat.gcd n.natAbs d.natAbs=1)
set_option maxHeartbeats 1000000 in
theorem GN (n d:Int) (w:World) :
  Calls Tryz.prog 56 #[.agg #[D n,D d]] w fun e w'=>e=.returned (.bool (Db n d))∧Below w.heap.size w w':=by
 by_cases h1:d < 1
 ·have HF:Hid (Db n d=false):=decide_eq_false (by omega)
  go_enter Tryz.func56,Tryz.ntmps56
  go_wp2_with fail
  go_ret
  exact ⟨qk0 HF.out.symm,(Below.refl _ _).alloc (Nat.le_refl _) _⟩
 by_cases h2:1000000 < d
 ·have HF:Hid (Db n d=false):=decide_eq_false (by omega)
  go_enter Tryz.func56,Tryz.ntmps56
  go_wp2_with fail
  go_ret
  exact ⟨qk0 HF.out.symm,(Below.refl _ _).alloc (Nat.le_refl _) _⟩
 by_cases h3:n < -1000000000000
 ·have HF:Hid (Db n d=false):=decide_eq_false (by omega)
  go_enter Tryz.func56,Tryz.ntmps56
  go_wp2_with fail
  go_ret
  exact ⟨qk0 HF.out.symm,(Below.refl _ _).alloc (Nat.le_refl _) _⟩
 by_cases h4:1000000000000 < n
 ·have HF:Hid (Db n d=false):=decide_eq_false (by omega)
  go_enter Tryz.func56,Tryz.ntmps56
  go_wp2_with fail
  go_ret
  exact ⟨qk0 HF.out.symm,(Below.refl _ _).alloc (Nat.le_refl _) _⟩
 ·obtain ⟨k,rfl⟩:=Int.eq_ofNat_of_zero_le (show 0≤d by omega)
  have HF:Hid (Db n k=(((Nat.gcd n.natAbs k:Nat):Int) == 1)):=by
   show _=_
   unfold Db
   rw [Bool.eq_iff_iff]
   simp
   omega
  go_enter Tryz.func56,Tryz.ntmps56
  go_wp2_with fail
  go_quiet ((first | (go_at_call 100; exact PO (Ri _ _ (by omega) (by omega))) | (go_at_call 99; exact Calls.quiet_of (mm _ _ _ (by omega) (by omega)))))
  go_wp2_with fail
  go_ret
  exact ⟨qk0 HF.out.symm,dx ((Below.refl _ _).alloc (Nat.le_refl _) _) _⟩
end Go.Proofs.YtmcpjkcggfmcmaaGreatDoor
namespace Go.Proofs.YtmcpjkcggfmcmaaGreatDoor
open Go.RowKit
set_option maxRecDepth 100000
theorem CX {w w':World} (h:EC [] w.heap.size w w'):Below w.heap.size w w':=⟨h.os,h.tape,h.output,h.size,fun k a=>h.block k a (by simp)⟩
theorem QD {w w':World} (h:w=w'):Below w.heap.size w w':=h ▸ Below.refl _ _
theorem Az {M:List BI} {w w':World} (h:∀ e∈M,e.good w) (B:Below w.heap.size w w'):∀ e∈M,e.good w':=fun e he=>by
 have hg:=h e he
 refine ⟨Nat.lt_of_lt_of_le hg.1 B.size,?_⟩
 have h2:=hg.2
 split at h2
 ·rename_i ho; rw [if_pos ho,B.block e.id hg.1]; exact h2
 ·rename_i ho
  rw [if_neg ho]
  exact fun j v hv=>(World.cell?_of_block (B.block e.id hg.1)).trans (h2 j v hv)
def Kr (q:Nat):List Item→Bool
 | .code (.region i _ _) :: _=>Nat.beq i q
 | _=>false
def JO (q:Nat):Nat→List Item→Nat
 | 0,_=>0
 | m + 1,t=>match Kr q t with
  | true=>0
  | false=>match NB t with
   | some t'=>JO q m t' + 1
   | none=>0
noncomputable def Ad (q:Nat) (t:List Item):List Item:=AB (JO q 90 t) t
section
variable {P:Program} {o:Oper} {ρ:Operand→Value} {w:World}
theorem RK (a b:List UInt8):((⟨⟨a⟩⟩:ByteArray).toList == (⟨⟨b⟩⟩:ByteArray).toList)=decide (a=b):=by
 have e:((⟨⟨a⟩⟩:ByteArray) == ⟨⟨b⟩⟩)=decide (a=b):=by
  show ((⟨a⟩:Array UInt8) == ⟨b⟩)=decide (a=b)
  by_cases hab:a=b
  ·subst hab; simp
  ·rw [decide_eq_false hab,beq_eq_false_iff_ne]
   intro h2
   exact hab (by injection h2)
 rw [beq_toListBytes] at e
 exact e
theorem IX {T T':TypeId} {x y:Operand} {a b:List UInt8} (hop:o.op=.binOp .neq T x y T') (d:ρ x=.string ⟨⟨a⟩⟩) (c:ρ y=.string ⟨⟨b⟩⟩):(execOp ρ o).run P w=.ok (.value (.bool (!(decide (a=b))))) w:=by
 unfold execOp
 simp only [hop,d,c]
 unfold binOp Op.stringOp
 have e:=RK a b
 simp only [eqGuard,e]
 rfl
theorem IR {T T':TypeId} {x y:Operand} {a b:List UInt8} (hop:o.op=.binOp .eql T x y T':=by kernel_rfl) (hx:ρ x=.string ⟨⟨a⟩⟩:=by kernel_rfl) (hy:ρ y=.string ⟨⟨b⟩⟩:=by kernel_rfl):(execOp ρ o).run P w=.ok (.value (.bool (decide (a=b)))) w:=by
 unfold execOp
 simp only [hop,hx,hy]
 unfold binOp Op.stringOp
 have e:=RK a b
 simp only [eqGuard,e]
 rfl
theorem OM {T T':TypeId} {x y:Operand} {a b:Int} (hop:o.op=.binOp .rem T x y T') (d:ρ x=D a) (c:ρ y=D b) (hb:b≠0):(execOp ρ o).run P w=.ok (.value (D (a.tmod b))) w:=by
 unfold execOp
 simp [hop,d,c,binOp,Op.intDiv,hb,eqGuard]
theorem EP {k:BinOp} {T:TypeId} {a b r:Value} (h2:(binOp k T a b).run P w=.ok r w) (c:(execOp ρ o).run P w=(binOp k T a b >>= fun v=>(pure (.value v):Sem Next)).run P w:=by kernel_rfl):(execOp ρ o).run P w=.ok (.value r) w:=by
 rw [c,Sem.run_bind,h2]
 rfl
end
section
variable {P:Program} {f:FuncId} {R:Ending→World→Prop}
def l1 (n:Nat) (E:Nat→Value) (todo:List Item):Option (TypeId×Value×Value×Option Tmp):=match FY n E todo with
 | some o=>match o.op with
  | .indexAddr t x i=>some (t,BN n E x,BN n E i,o.dst)
  | _=>none
 | none=>none
theorem Bd {P:Program} {o:Oper} {ρ:Operand→Value} {w:World} (T:TypeId) (x i:Operand) {g off len cap k sz:Nat} {e:TypeId} (b:ρ x=.slice (some ⟨g,off,none⟩) len cap) (hi:ρ i=D k) (c:k < len) (d:P.underlying T=some (.slice e)) (hop:o.op=.indexAddr T x i:=by kernel_rfl) (hs:(P.info? e).map (·.size)=some sz:=by kernel_rfl):(execOp ρ o).run P w=.ok (.value (.pointer (some ⟨g,off + k * sz,none⟩))) w:=by
 unfold execOp
 cases hq:P.info? e with
 | none=>rw [hq] at hs; cases hs
 | some inf=>
  have a:inf.size=sz:=by rw [hq] at hs; exact Option.some.inj hs
  simp [hop,b,hi,Instr.indexAt,asIntOf,run_underlying d,c,sizeOf,typeInfo,hq,a,Addr.add]
  try (intro f; simp [f])
theorem BH {n:Nat} {todo:List Item} {E:Nat→Value} {w:World} {g off len cap k sz:Nat} {T e:TypeId} (dst:Option Tmp) (b:k < len) (c:P.underlying T=some (.slice e)) (h:At P f R (AE todo) (Fr n (Bc E dst (.pointer (some ⟨g,off + k * sz,none⟩)))) w) (hc:l1 n E todo=some (T,.slice (some ⟨g,off,none⟩) len cap,D k,dst):=by kernel_rfl) (hs:(P.info? e).map (·.size)=some sz:=by kernel_rfl):At P f R todo (Fr n E) w:=by
 unfold l1 at hc
 split at hc
 ·rename_i o hcur
  split at hc
  ·rename_i t x i ho
   simp only [Option.some.injEq,Prod.mk.injEq] at hc
   obtain ⟨rfl,a,hi,rfl⟩:=hc
   exact NP o hcur (v:=.pointer (some ⟨g,off + k * sz,none⟩)) (w':=w) (Bd t x i (hop:=ho) a hi b c (hs:=hs)) h
  ·cases hc
 ·cases hc
end
def Gx (p:Op→Bool):List Item→Bool
 | .inRegion ops (i :: _) :: _=>match ops[i]? with
  | some o=>p o.op
  | none=>false
 | _=>false
def BA (p:Op→Bool):Nat→List Item→Nat
 | 0,_=>0
 | m + 1,t=>match Gx p t with
  | true=>0
  | false=>match NB t with
   | some t'=>BA p m t' + 1
   | none=>0
def cL:Op→Bool
 | .binOp .add _ _ _ _=>true
 | _=>false
def Ai:Op→Bool
 | .indexAddr _ _ _=>true
 | _=>false
def UO:Op→Bool
 | .slice _ _ _ _ _=>true
 | _=>false
def DM:List Item→Oper
 | .inRegion ops (i :: _) :: _=>ops.getD i default
 | _=>default
def AQ (v:Value):Nat:=match v with
 | .int _ n=>n.toNat
 | _=>0
theorem Bs (i:Nat) (h:i≤4294967296):IntKind.i64.wrap ((i:Int) + 1)=((i + 1:Nat):Int):=by rw [IntWalk.i64_in _ (by omega)]; omega
theorem F1 (w:World) (a b d c:Int):(binOp .eql 29 (.agg #[D a,D b]) (.agg #[D d,D c])).run Tryz.prog w=.ok (.bool (a == d && b == c)) w:=by
 simp [go_sem]
 repeat' split
 all_goals simp_all
theorem I2 (w:World) (a b c f e d:Int):(binOp .eql 24 (.agg #[D a,D b,D c]) (.agg #[D f,D e,D d])).run Tryz.prog w=.ok (.bool (a == f && (b == e && c == d))) w:=by
 simp [go_sem]
 repeat' split
 all_goals simp_all
theorem QS (w:World) (t:Bool) (a b c:Int) (d:Bool) (g f e:Int):(binOp .eql 26 (.agg #[.bool t,D a,D b,D c]) (.agg #[.bool d,D g,D f,D e])).run Tryz.prog w=.ok (.bool (t == d && (a == g && (b == f && c == e)))) w:=by
 simp [go_sem]
 repeat' split
 all_goals simp_all
theorem PI (w:World) (a b d c:Int):(binOp .neq 29 (.agg #[D a,D b]) (.agg #[D d,D c])).run Tryz.prog w=.ok (.bool (!(a == d && b == c))) w:=by
 simp [go_sem]
 repeat' split
 all_goals simp_all
theorem LC (w:World) (a b c f e d:Int):(binOp .neq 24 (.agg #[D a,D b,D c]) (.agg #[D f,D e,D d])).run Tryz.prog w=.ok (.bool (!(a == f && (b == e && c == d)))) w:=by
 simp [go_sem]
 repeat' split
 all_goals simp_all
theorem QR (w:World) (t:Bool) (a b c:Int) (d:Bool) (g f e:Int):(binOp .neq 26 (.agg #[.bool t,D a,D b,D c]) (.agg #[.bool d,D g,D f,D e])).run Tryz.prog w=.ok (.bool (!(t == d && (a == g && (b == f && c == e))))) w:=by
 simp [go_sem]
 repeat' split
 all_goals simp_all
end Go.Proofs.YtmcpjkcggfmcmaaGreatDoor

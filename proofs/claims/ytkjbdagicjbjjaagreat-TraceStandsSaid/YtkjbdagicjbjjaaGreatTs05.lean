/- Contracts of functions, part 5. -/
import Derived.Test.YtkjbdagicjbjjaaGreatTs00
import Derived.Shelf.Strconv.Itoa0
import Derived.Shelf.Sort.Plain
import Derived.Shelf.Bits.Mul64
import Derived.Ground.Names2Prog
import Derived.Shelf.Slices.CompactI
import Derived.Test.YtkjbdagicjbjjaaGreatProg
import Derived.Test.YtkjbdagicjbjjaaGreatTs03
import Derived.Test.YtkjbdagicjbjjaaGreatTs04
set_option linter.all false
namespace Go.Proofs
open Go.Shelf
def Tryz.lays129_ren:Go.Shelf.Ren:=⟨fun | 129=>143 | n=>n,fun | 53=>164 | 3=>3 | 4=>4 | 46=>169 | 5=>5 | 9=>9 | n=>n,fun | n=>n⟩
theorem Tryz.lays129:Go.Proofs.Lays.n129 Tryz.prog Tryz.lays129_ren:={
 mixed:=by kernel_rfl
 f129:=Tryz.func143.trans (congrArg some (by kernel_rfl))
 t3:=Tryz.underlying3
 a3:=Tryz.isAgg3
 z3:=Tryz.sizeOf3
 v3:=Tryz.zeroValue3
 t4:=Tryz.underlying4
 a4:=Tryz.isAgg4
 z4:=Tryz.sizeOf4
 v4:=Tryz.zeroValue4
 t5:=Tryz.underlying5
 a5:=Tryz.isAgg5
 z5:=Tryz.sizeOf5
 v5:=Tryz.zeroValue5
 t9:=Tryz.underlying9
 a9:=Tryz.isAgg9
 z9:=Tryz.sizeOf9
 v9:=Tryz.zeroValue9
 t46:=Tryz.underlying169
 a46:=Tryz.isAgg169
 z46:=Tryz.sizeOf169
 v46:=Tryz.zeroValue169
 t53:=Tryz.underlying164
 a53:=Tryz.isAgg164
 z53:=Tryz.sizeOf164
 v53:=Tryz.zeroValue164 }
theorem Tryz.bits_Len64 (x:Int) (w:World) (b:0≤x) (a:x≤18446744073709551615) :
  Calls Tryz.prog 143 #[.int .u64 x] w fun e w'=>e=.returned (.int .i64 (Lib.bitLen x.toNat))∧w'=w:=Any.bits_Len64 Tryz.lays129 x w b a
def Tryz.lays189_ren:Go.Shelf.Ren:=⟨fun | 189=>85 | 125=>114 | 257=>113 | 128=>142 | 129=>143 | 294=>133 | 295=>134 | 296=>135 | 297=>136 | 298=>137 | 299=>138 | 216=>139 | 300=>140 | 301=>141 | 328=>152 | 329=>153 | 330=>154 | 331=>155 | 332=>156 | 215=>118 | 343=>158 | n=>n,fun | 28=>22 | 3=>3 | 46=>169 | 0=>0 | 51=>203 | 53=>164 | 4=>4 | 183=>196 | 182=>195 | 131=>75 | 5=>5 | 9=>9 | 218=>212 | 222=>215 | 228=>218 | 229=>219 | n=>n,fun | n=>n⟩
theorem Tryz.lays189:Go.Proofs.Lays.n189 Tryz.prog Tryz.lays189_ren:={
 mixed:=by kernel_rfl
 f125:=Tryz.func114.trans (congrArg some (by kernel_rfl))
 f128:=Tryz.func142.trans (congrArg some (by kernel_rfl))
 f129:=Tryz.func143.trans (congrArg some (by kernel_rfl))
 f189:=Tryz.func85.trans (congrArg some (by kernel_rfl))
 f215:=Tryz.func118.trans (congrArg some (by kernel_rfl))
 f216:=Tryz.func139.trans (congrArg some (by kernel_rfl))
 f257:=Tryz.func113.trans (congrArg some (by kernel_rfl))
 f294:=Tryz.func133.trans (congrArg some (by kernel_rfl))
 f295:=Tryz.func134.trans (congrArg some (by kernel_rfl))
 f296:=Tryz.func135.trans (congrArg some (by kernel_rfl))
 f297:=Tryz.func136.trans (congrArg some (by kernel_rfl))
 f298:=Tryz.func137.trans (congrArg some (by kernel_rfl))
 f299:=Tryz.func138.trans (congrArg some (by kernel_rfl))
 f300:=Tryz.func140.trans (congrArg some (by kernel_rfl))
 f301:=Tryz.func141.trans (congrArg some (by kernel_rfl))
 f328:=Tryz.func152.trans (congrArg some (by kernel_rfl))
 f329:=Tryz.func153.trans (congrArg some (by kernel_rfl))
 f330:=Tryz.func154.trans (congrArg some (by kernel_rfl))
 f331:=Tryz.func155.trans (congrArg some (by kernel_rfl))
 f332:=Tryz.func156.trans (congrArg some (by kernel_rfl))
 f343:=Tryz.func158.trans (congrArg some (by kernel_rfl))
 t0:=Tryz.underlying0
 a0:=Tryz.isAgg0
 z0:=Tryz.sizeOf0
 v0:=Tryz.zeroValue0
 t3:=Tryz.underlying3
 a3:=Tryz.isAgg3
 z3:=Tryz.sizeOf3
 v3:=Tryz.zeroValue3
 t4:=Tryz.underlying4
 a4:=Tryz.isAgg4
 z4:=Tryz.sizeOf4
 v4:=Tryz.zeroValue4
 t5:=Tryz.underlying5
 a5:=Tryz.isAgg5
 z5:=Tryz.sizeOf5
 v5:=Tryz.zeroValue5
 t9:=Tryz.underlying9
 a9:=Tryz.isAgg9
 z9:=Tryz.sizeOf9
 v9:=Tryz.zeroValue9
 t28:=Tryz.underlying22
 a28:=Tryz.isAgg22
 z28:=Tryz.sizeOf22
 v28:=Tryz.zeroValue22
 t46:=Tryz.underlying169
 a46:=Tryz.isAgg169
 z46:=Tryz.sizeOf169
 v46:=Tryz.zeroValue169
 t51:=Tryz.underlying203
 a51:=Tryz.isAgg203
 z51:=Tryz.sizeOf203
 v51:=Tryz.zeroValue203
 t53:=Tryz.underlying164
 a53:=Tryz.isAgg164
 z53:=Tryz.sizeOf164
 v53:=Tryz.zeroValue164
 t131:=Tryz.underlying75
 a131:=Tryz.isAgg75
 z131:=Tryz.sizeOf75
 v131:=Tryz.zeroValue75
 t182:=Tryz.underlying195
 a182:=Tryz.isAgg195
 z182:=Tryz.sizeOf195
 v182:=Tryz.zeroValue195
 t183:=Tryz.underlying196
 a183:=Tryz.isAgg196
 z183:=Tryz.sizeOf196
 v183:=Tryz.zeroValue196
 t218:=Tryz.underlying212
 a218:=Tryz.isAgg212
 z218:=Tryz.sizeOf212
 v218:=Tryz.zeroValue212
 t222:=Tryz.underlying215
 a222:=Tryz.isAgg215
 z222:=Tryz.sizeOf215
 v222:=Tryz.zeroValue215
 t228:=Tryz.underlying218
 a228:=Tryz.isAgg218
 z228:=Tryz.sizeOf218
 v228:=Tryz.zeroValue218
 t229:=Tryz.underlying219
 a229:=Tryz.isAgg219
 z229:=Tryz.sizeOf219
 v229:=Tryz.zeroValue219 }
open Go.Sort Go.RowKit in
theorem Tryz.slices_Sort_int (blk off cap:Nat) (zs:List Int) (w:World) (hH:Holds (Value.int .i64) w blk off zs.toArray) (hblk:blk < w.heap.size) (hsz:zs.length < 4611686018427387904) :
  Calls Tryz.prog 85 #[.slice (some ⟨blk,off,none⟩) zs.length cap] w fun e w'=>
   e=.returned (.tuple #[])∧∃ n os,w'=grow (putRow (Value.int .i64) (Sort.ahead w n) blk off (zs.mergeSort fun x y=>decide (x≤y)).toArray) os:=Any.slices_Sort_int Tryz.lays189 blk off cap zs w hH hblk hsz
def Tryz.lays264_ren:Go.Shelf.Ren:=⟨fun | 264=>146 | n=>n,fun | 53=>164 | 46=>169 | n=>n,fun | n=>n⟩
theorem Tryz.lays264:Go.Proofs.Lays.n264 Tryz.prog Tryz.lays264_ren:={
 mixed:=by kernel_rfl
 f264:=Tryz.func146.trans (congrArg some (by kernel_rfl))
 t46:=Tryz.underlying169
 a46:=Tryz.isAgg169
 z46:=Tryz.sizeOf169
 v46:=Tryz.zeroValue169
 t53:=Tryz.underlying164
 a53:=Tryz.isAgg164
 z53:=Tryz.sizeOf164
 v53:=Tryz.zeroValue164 }
open Go.RowKit Go.Lib in
theorem Tryz.bits_Mul64 (x y:Nat) (hx:x < 18446744073709551616) (hy:y < 18446744073709551616) (w:World) :
  Calls Tryz.prog 146 #[.int .u64 x,.int .u64 y] w fun e w'=>e=.returned (.tuple #[.int .u64 ((x * y / 18446744073709551616:Nat):Int),.int .u64 ((x * y % 18446744073709551616:Nat):Int)])∧w'=w:=Any.bits_Mul64 Tryz.lays264 x y hx hy w
def Tryz.laysNm220_ren:Go.Shelf.Ren:=⟨fun | 20=>86 | n=>n,fun | 22=>22 | 3=>3 | 4=>4 | 0=>0 | n=>n,fun | n=>n⟩
theorem Tryz.laysNm220:Go.Proofs.Lays2.n20 Tryz.prog Tryz.laysNm220_ren:={
 mixed:=by kernel_rfl
 f20:=Tryz.func86.trans (congrArg some (by kernel_rfl))
 t0:=Tryz.underlying0
 a0:=Tryz.isAgg0
 z0:=Tryz.sizeOf0
 v0:=Tryz.zeroValue0
 t3:=Tryz.underlying3
 a3:=Tryz.isAgg3
 z3:=Tryz.sizeOf3
 v3:=Tryz.zeroValue3
 t4:=Tryz.underlying4
 a4:=Tryz.isAgg4
 z4:=Tryz.sizeOf4
 v4:=Tryz.zeroValue4
 t22:=Tryz.underlying22
 a22:=Tryz.isAgg22
 z22:=Tryz.sizeOf22
 v22:=Tryz.zeroValue22
 i3:=by kernel_rfl }
open Go.RowKit Go.Lib Go.Sort in
theorem Tryz.slices_Compact_int (blk off cap:Nat) (zs:List Int) (w:World) (hH:Holds (Value.int .i64) w blk off zs.toArray) (hsz:zs.length≤9223372036854775807) (hcap:zs.length≤cap) :
  Calls Tryz.prog 86 #[.slice (some ⟨blk,off,none⟩) zs.length cap] w fun e w'=>e=.returned (.slice (some ⟨blk,off,none⟩) (Lib.compact zs).length cap)∧∃ q,w'=putRow (Value.int .i64) (Sort.ahead w q) blk off (Lib.compact zs++List.replicate (zs.length - (Lib.compact zs).length) 0).toArray:=Any.slices_Compact_int Tryz.laysNm220 blk off cap zs w hH hsz hcap
open Go.RowKit Go.Lib Go.Sort in
theorem Tryz.slices_Compact_int_empty (a:Option Addr) (cap:Nat) (w:World) :
  Calls Tryz.prog 86 #[.slice a 0 cap] w fun e w'=>e=.returned (.slice a 0 cap)∧w'=w:=Any.slices_Compact_int_empty Tryz.laysNm220 a cap w
end Go.Proofs
namespace Go.Proofs.YtkjbdagicjbjjaaGreat
open Go.RowKit
attribute [local go_sem] nz g7 iU
set_option maxHeartbeats 1000000 in
theorem gI (l:List UInt8) (w:World) (hs:l.length≤maxLen) :
  Calls Tryz.prog 70 #[.string ⟨l.toArray⟩] w fun e w'=>e=.returned (ξ (Tk.isName l))∧w=w':=by
 have hs':=hs
 unfold maxLen at hs
 by_cases h0:0 < l.length
 ·by_cases h1:l.length≤24
  ·by_cases h2:Tk.wordLen l=l.length
   ·have hn:Tk.isName l=!Tk.isKey l:=by simp [Tk.isName,h0,h1,h2]
    rw [hn]
    have h3:((Tk.wordLen l:Int) == l.length)=true:=by simp; omega
    clear hn h2
    go_enter Tryz.func70,Tryz.ntmps70
    go_wp2_with ((first | (go_at_call 102; refine (Lo _ _ hs').mono ?_; rintro e w' ⟨rfl,rfl⟩) | (go_at_call 103; refine (ND _ _).mono ?_; rintro e w' ⟨rfl,rfl⟩)))
    go_ret
    exact ⟨rfl,rfl⟩
   have hn:Tk.isName l=false:=by simp [Tk.isName,h2]
   rw [hn]
   have h3:((Tk.wordLen l:Int) == l.length)=false:=by simp; omega
   clear hn h2
   go_enter Tryz.func70,Tryz.ntmps70
   go_wp2_with ((first | (go_at_call 102; refine (Lo _ _ hs').mono ?_; rintro e w' ⟨rfl,rfl⟩) | (go_at_call 103; refine (ND _ _).mono ?_; rintro e w' ⟨rfl,rfl⟩)))
   go_ret
   exact ⟨rfl,rfl⟩
  have hn:Tk.isName l=false:=by simp [Tk.isName,h1]
  rw [hn]
  clear hn
  go_enter Tryz.func70,Tryz.ntmps70
  go_wp2_with fail
  go_ret
  exact ⟨rfl,rfl⟩
 have hn:Tk.isName l=false:=by simp [Tk.isName,h0]
 rw [hn]
 clear hn
 go_enter Tryz.func70,Tryz.ntmps70
 go_wp2_with fail
 go_ret
 exact ⟨rfl,rfl⟩
end Go.Proofs.YtkjbdagicjbjjaaGreat
namespace Go.Proofs.YtkjbdagicjbjjaaGreat
open Go.RowKit
set_option maxRecDepth 100000
theorem Ce {w w':World} (h:FH [] (ε w) w w'):Below (ε w) w w':=⟨h.os,h.tape,h.output,h.size,fun k a=>h.block k a (by simp)⟩
theorem Rg {w w':World} (h:w=w'):Below (ε w) w w':=h ▸ Below.refl _ _
theorem CQ {M:List A7} {w w':World} (h:∀ e∈M,e.good w) (B:Below (ε w) w w'):∀ e∈M,e.good w':=fun e he=>by
 have hg:=h e he
 refine ⟨Nat.lt_of_lt_of_le hg.1 B.size,?_⟩
 have h2:=hg.2
 split at h2
 ·rename_i ho; rw [if_pos ho,B.block e.id hg.1]; exact h2
 rename_i ho
 rw [if_neg ho]
 exact fun j v hv=>(World.cell?_of_block (B.block e.id hg.1)).trans (h2 j v hv)
def Ln (q:Nat):List Item→Bool
 | .code (.region i _ _) :: _=>Nat.beq i q
 | _=>false
def KA (q:Nat):Nat→List Item→Nat
 | 0,_=>0
 | m + 1,t=>match Ln q t with
  | true=>0
  | false=>match OM t with
   | some t'=>KA q m t' + 1
   | none=>0
noncomputable def Al (q:Nat) (t:List Item):List Item:=AA (KA q 90 t) t
section
variable {P:Program} {o:Oper} {ρ:Operand→Value} {w:World}
theorem TA (a b:List UInt8):((⟨⟨a⟩⟩:ByteArray).toList == (⟨⟨b⟩⟩:ByteArray).toList)=decide (a=b):=by
 have e:((⟨⟨a⟩⟩:ByteArray) == ⟨⟨b⟩⟩)=decide (a=b):=by
  show ((⟨a⟩:Array UInt8) == ⟨b⟩)=decide (a=b)
  by_cases hab:a=b
  ·subst hab; simp
  rw [decide_eq_false hab,beq_eq_false_iff_ne]
  intro h2
  exact hab (by injection h2)
 rw [beq_toListBytes] at e
 exact e
theorem Nx {T T':TypeId} {x y:Operand} {a b:List UInt8} (hop:o.op=.binOp .neq T x y T') (hx:ρ x=η a) (c:ρ y=η b):(execOp ρ o).run P w=.ok (.value (ξ (!(decide (a=b))))) w:=by
 unfold execOp
 simp only [hop,hx,c]
 unfold binOp Op.stringOp
 have e:=TA a b
 simp only [eqGuard,e]
 rfl
theorem Hl {T T':TypeId} {x y:Operand} {a b:List UInt8} (hop:o.op=.binOp .eql T x y T':=by kernel_rfl) (hx:ρ x=η a:=by kernel_rfl) (hy:ρ y=η b:=by kernel_rfl):(execOp ρ o).run P w=.ok (.value (ξ (decide (a=b)))) w:=by
 unfold execOp
 simp only [hop,hx,hy]
 unfold binOp Op.stringOp
 have e:=TA a b
 simp only [eqGuard,e]
 rfl
theorem Mw {T T':TypeId} {x y:Operand} {a b:Int} (hop:o.op=.binOp .rem T x y T') (hx:ρ x=δ a) (c:ρ y=δ b) (hb:b≠0):(execOp ρ o).run P w=.ok (.value (δ (a.tmod b))) w:=by
 unfold execOp
 simp [hop,hx,c,binOp,Op.intDiv,hb,eqGuard]
theorem DD {k:BinOp} {T:TypeId} {a b r:Value} (h2:(binOp k T a b).run P w=.ok r w) (c:(execOp ρ o).run P w=(binOp k T a b >>= fun v=>(pure (.value v):Sem Next)).run P w:=by kernel_rfl):(execOp ρ o).run P w=.ok (.value r) w:=by
 rw [c,Sem.run_bind,h2]
 rfl
end
section
variable {P:Program} {f:FuncId} {R:Ending→World→Prop}
def vW (n:Nat) (E:Nat→Value) (todo:List Item):Option (TypeId×Value×Value×Option Tmp):=match Hx n E todo with
 | some o=>match o.op with
  | .indexAddr t x i=>some (t,A8 n E x,A8 n E i,o.dst)
  | _=>none
 | none=>none
theorem CE {P:Program} {o:Oper} {ρ:Operand→Value} {w:World} (T:TypeId) (x i:Operand) {g off len cap k sz:Nat} {e:TypeId} (b:k < len) (c:P.underlying T=some (.slice e)) (hop:o.op=.indexAddr T x i:=by kernel_rfl) (hx:ρ x=.slice (some ⟨g,off,none⟩) len cap:=by kernel_rfl) (hi:ρ i=δ k:=by kernel_rfl) (hs:(P.info? e).map (·.size)=some sz:=by kernel_rfl):(execOp ρ o).run P w=.ok (.value (.pointer (some ⟨g,off + k * sz,none⟩))) w:=by
 unfold execOp
 cases hq:P.info? e with
 | none=>rw [hq] at hs; cases hs
 | some inf=>
  have a:inf.size=sz:=by rw [hq] at hs; exact Option.some.inj hs
  simp [hop,hx,hi,Instr.indexAt,asIntOf,run_underlying c,b,sizeOf,typeInfo,hq,a,Addr.add]
  try (intro d; simp [d])
theorem Ay {n:Nat} {todo:List Item} {E:Nat→Value} {w:World} {g off len cap k sz:Nat} {T e:TypeId} (dst:Option Tmp) (a:k < len) (b:P.underlying T=some (.slice e)) (h:At P f R (AC todo) (Fr n (Aw E dst (.pointer (some ⟨g,off + k * sz,none⟩)))) w) (hc:vW n E todo=some (T,.slice (some ⟨g,off,none⟩) len cap,δ k,dst):=by kernel_rfl) (hs:(P.info? e).map (·.size)=some sz:=by kernel_rfl):At P f R todo (Fr n E) w:=by
 unfold vW at hc
 split at hc
 ·rename_i o hcur
  split at hc
  ·rename_i t x i ho
   simp only [Option.some.injEq,Prod.mk.injEq] at hc
   obtain ⟨rfl,hx,hi,rfl⟩:=hc
   exact Rh o hcur (v:=.pointer (some ⟨g,off + k * sz,none⟩)) (w':=w) (CE t x i (hop:=ho) (hx:=hx) (hi:=hi) a b (hs:=hs)) h
  cases hc
 cases hc
end
def HU (p:Op→Bool):List Item→Bool
 | .inRegion ops (i :: _) :: _=>match ops[i]? with
  | some o=>p o.op
  | none=>false
 | _=>false
def An (p:Op→Bool):Nat→List Item→Nat
 | 0,_=>0
 | m + 1,t=>match HU p t with
  | true=>0
  | false=>match OM t with
   | some t'=>An p m t' + 1
   | none=>0
def Ei:Op→Bool
 | .binOp .eql _ _ _ _=>true
 | _=>false
def Ae:Op→Bool
 | .indexAddr _ _ _=>true
 | _=>false
def XP:Op→Bool
 | .slice _ _ _ _ _=>true
 | _=>false
def CL:List Item→Oper
 | .inRegion ops (i :: _) :: _=>ops.getD i default
 | _=>default
def AL (v:Value):Nat:=match v with
 | .int _ n=>n.toNat
 | _=>0
theorem Bl (i:Nat) (h:i≤4294967296):IntKind.i64.wrap ((i:Int) + 1)=((i + 1:Nat):Int):=by rw [IntWalk.i64_in _ (by omega)]; omega
theorem FJ (w:World) (a b d c:Int):(binOp .eql 41 (.agg #[δ a,δ b]) (.agg #[δ d,δ c])).run Tryz.prog w=.ok (ξ (a == d && b == c)) w:=by
 simp [go_sem]
 repeat' split
 all_goals simp_all
theorem I7 (w:World) (a b c f e d:Int):(binOp .eql 50 (.agg #[δ a,δ b,δ c]) (.agg #[δ f,δ e,δ d])).run Tryz.prog w=.ok (ξ (a == f && (b == e && c == d))) w:=by
 simp [go_sem]
 repeat' split
 all_goals simp_all
theorem EL (w:World) (t:Bool) (a b c:Int) (d:Bool) (g f e:Int):(binOp .eql 56 (.agg #[ξ t,δ a,δ b,δ c]) (.agg #[ξ d,δ g,δ f,δ e])).run Tryz.prog w=.ok (ξ (t == d && (a == g && (b == f && c == e)))) w:=by
 simp [go_sem]
 repeat' split
 all_goals simp_all
theorem Qu (w:World) (a b d c:Int):(binOp .neq 41 (.agg #[δ a,δ b]) (.agg #[δ d,δ c])).run Tryz.prog w=.ok (ξ (!(a == d && b == c))) w:=by
 simp [go_sem]
 repeat' split
 all_goals simp_all
theorem Lv (w:World) (a b c f e d:Int):(binOp .neq 50 (.agg #[δ a,δ b,δ c]) (.agg #[δ f,δ e,δ d])).run Tryz.prog w=.ok (ξ (!(a == f && (b == e && c == d)))) w:=by
 simp [go_sem]
 repeat' split
 all_goals simp_all
theorem Rz (w:World) (t:Bool) (a b c:Int) (d:Bool) (g f e:Int):(binOp .neq 56 (.agg #[ξ t,δ a,δ b,δ c]) (.agg #[ξ d,δ g,δ f,δ e])).run Tryz.prog w=.ok (ξ (!(t == d && (a == g && (b == f && c == e))))) w:=by
 simp [go_sem]
 repeat' split
 all_goals simp_all
end Go.Proofs.YtkjbdagicjbjjaaGreat

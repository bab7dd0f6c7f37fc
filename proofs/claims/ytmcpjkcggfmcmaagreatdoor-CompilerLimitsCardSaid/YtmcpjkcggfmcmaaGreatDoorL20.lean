/-
  Part 20 of a proof: contracts of functions.
-/
import Derived.Test.YtmcpjkcggfmcmaaGreatDoorL19
set_option linter.all false
namespace Go.Proofs.YtmcpjkcggfmcmaaGreatDoor
noncomputable section
open Go.RowKit
set_option maxRecDepth 100000
set_option maxHeartbeats 1000000
attribute [local irreducible] BD Bb AF AG AL A4 Ai AO BO CV Di CC Bp At Fr
def Hz:List Value:=[.string ⟨⟨[]⟩⟩,.string ⟨⟨[112,117,115,104]⟩⟩,.string ⟨⟨[105,110,112,117,116]⟩⟩,.string ⟨⟨[114,111,117,116,105,110,101]⟩⟩,.string ⟨⟨[115,99,97,108,101]⟩⟩,.string ⟨⟨[97,100,100]⟩⟩,.string ⟨⟨[115,117,98]⟩⟩,.string ⟨⟨[109,117,108]⟩⟩,.string ⟨⟨[100,105,118]⟩⟩,.string ⟨⟨[108,101,115,115]⟩⟩,.string ⟨⟨[108,101,115,115,101,113,117,97,108]⟩⟩,.string ⟨⟨[101,113,117,97,108]⟩⟩,.string ⟨⟨[109,105,110]⟩⟩,.string ⟨⟨[109,97,120]⟩⟩,.string ⟨⟨[110,101,103]⟩⟩,.string ⟨⟨[110,111,116]⟩⟩,.string ⟨⟨[106,117,109,112]⟩⟩,.string ⟨⟨[117,110,108,101,115,115]⟩⟩,.string ⟨⟨[114,111,117,110,100]⟩⟩,.string ⟨⟨[97,118,101,114,97,103,101]⟩⟩,.string ⟨⟨[108,97,115,116]⟩⟩]
def SF:Nat:=0
def FT (w:World):Prop:=∀ (j:Nat) v,Hz[j]?=some v→w.cell? ⟨SF,j,none⟩=some v
theorem El {w w':World} (h:FT w) (hb:Below w.heap.size w w'):FT w':=fun j v hj=>by
 have h1:=h j v hj
 have hlt:SF < w.heap.size:=by
  cases hh:w.heap[SF]? with
  | none=>simp [World.cell?,hh] at h1
  | some x=>exact (Array.getElem?_eq_some_iff.1 hh).1
 exact (World.cell?_of_block (hb.block SF hlt)).trans h1
def BI (k:Int):List UInt8:=match Hz[k.toNat]? with
 | some (.string ⟨⟨s⟩⟩)=>s
 | _=>[]
theorem aY {k:Int} (h:0≤k∧k < 21):Hz[k.toNat]?=some (.string ⟨⟨BI k⟩⟩):=by
 obtain ⟨n,rfl⟩:=Int.eq_ofNat_of_zero_le h.1
 have hn:n < 21:=by omega
 have key:∀ n:Fin 21,Hz[((n.1:Nat):Int).toNat]?=some (.string ⟨⟨BI ((n.1:Nat):Int)⟩⟩):=by
  intro n
  match n with
  | ⟨0,_⟩ | ⟨1,_⟩ | ⟨2,_⟩ | ⟨3,_⟩ | ⟨4,_⟩ | ⟨5,_⟩ | ⟨6,_⟩ | ⟨7,_⟩ | ⟨8,_⟩ | ⟨9,_⟩ | ⟨10,_⟩ | ⟨11,_⟩ | ⟨12,_⟩ | ⟨13,_⟩ | ⟨14,_⟩ | ⟨15,_⟩ | ⟨16,_⟩ | ⟨17,_⟩ | ⟨18,_⟩ | ⟨19,_⟩ | ⟨20,_⟩=>rfl
  | ⟨n + 21,h⟩=>exact absurd h (by omega)
 exact key ⟨n,hn⟩
theorem Xa {P:Program} {ρ:Operand→Value} {w:World} {t e:TypeId} {n b:Nat} {x i:Operand} {k:Int} (oo:Oper) (ho:oo.op=.indexAddr t x i) (hx:ρ x=.pointer (some ⟨b,0,none⟩)) (hi:ρ i=.int .i64 k) (hT:P.underlying t=some (.array n e)) (hs:(P.info? e).map (·.size)=some 1)
  (h:0≤k∧k < (n:Int)):(execOp ρ oo).run P w=.ok (.value (.pointer (some ⟨b,k.toNat,none⟩))) w:=by
 unfold execOp
 cases hq:P.info? e with
 | none=>rw [hq] at hs; cases hs
 | some inf=>
  have hsz:inf.size=1:=by rw [hq] at hs; exact Option.some.inj hs
  simp [ho,hx,hi,Instr.indexAt,asIntOf,run_underlying hT,h.1,h.2,sizeOf,typeInfo,hq,hsz,Addr.add,Instr.sureAddr]
  omega
def Az (n:Int):List UInt8:=cond (Nat.blt n.toNat 100) (Lib.decDigits n.toNat) []
theorem CK (n:Int):(Az n).length≤2:=by
 unfold Az
 cases h:Nat.blt n.toNat 100 with
 | false=>exact Nat.zero_le _
 | true=>
  rw [Nat.blt_eq] at h
  have key:∀ k:Fin 100,(Lib.decDigits k.1).length≤2:=by decide +kernel
  exact key ⟨n.toNat,h⟩
theorem CD (k:Int):(BI k).length≤9:=by
 have key:∀ n:Fin 21,(BI ((n.1:Nat):Int)).length≤9:=by decide +kernel
 by_cases h:k.toNat < 21
 ·have:=key ⟨k.toNat,h⟩
  unfold BI at this ⊢
  exact this
 ·unfold BI
  rw [List.getElem?_eq_none (by simp only [Hz,List.length_cons,List.length_nil]; omega)]
  exact Nat.zero_le _
theorem BW {P:Program} {o:Oper} {ρ:Operand→Value} {w:World} {T T':TypeId} {x y:Operand} {a b:List UInt8} (hs:a.length + b.length≤1000) (hop:o.op=.binOp .add T x y T':=by kernel_rfl) (hx:ρ x=.string ⟨⟨a⟩⟩:=by kernel_rfl) (hy:ρ y=.string ⟨⟨b⟩⟩:=by kernel_rfl):(execOp ρ o).run P w=.ok (.value (.string ⟨⟨a++b⟩⟩)) w:=by
 have h:=Qv (P:=P) (w:=w) hop hx hy (by show ((a.length + b.length:Nat):Int)≤9223372036854775807; omega)
 rw [show (⟨⟨a⟩⟩++⟨⟨b⟩⟩:ByteArray)=⟨⟨a++b⟩⟩ by apply ByteArray.ext; simp] at h
 exact h
theorem Dr (n:Int) (h:0≤n∧n < 100) (w:World):Calls Tryz.prog 63 ([.int .i64 n]:List Value).toArray w fun e w'=>e=.returned (.string ⟨⟨Az n⟩⟩)∧Below w.heap.size w w':=by
 obtain ⟨m,rfl⟩:=Int.eq_ofNat_of_zero_le h.1
 refine (Tryz.strconv_Itoa_small m (by omega) w).mono fun e w' hh=>?_
 obtain ⟨rfl,rfl⟩:=hh
 exact ⟨by unfold Az; rw [show Nat.blt ((m:Int)).toNat 100=true by rw [Nat.blt_eq]; omega]; rfl,Below.refl _ _⟩
def DJ (p0a:Int) (p0b:Int):List UInt8:=cond (!(C4 p0a p0b)) ([]) (cond (!(p0b == 1)) ((Az p0a)++(([47])++(Az p0b))) (Az p0a))
noncomputable def SM:Code:=Tryz.f103.body.getD .skip
def cC:List Item:=AB 60 ([.code SM])
def TS:List Item:=AB 60 (AF cC)
def kz:List Item:=AB 60 (AG TS)
def cB:List Item:=AB 60 (AL TS)
def TR:List Item:=AB 60 (AF cB)
def cA:List Item:=Ac 5 (AG TR)
def ky:List Item:=AB 60 (AO cA)
def kx:List Item:=AB 60 (AL TR)
theorem Mr (p0a:Int) (p0b:Int) (w:World) (h_a:0≤p0a∧p0a < 100) (h_b:0≤p0b∧p0b < 100):Calls Tryz.prog 103 ([.agg ⟨[.int .i64 p0a,.int .i64 p0b]⟩]:List Value).toArray w fun e w'=>e=.returned (.string ⟨⟨DJ p0a p0b⟩⟩)∧Below w.heap.size w w':=by
 refine Ab (fn:=Tryz.f103) (c:=SM) (n:=20) ?_
 have K1:=Wk.start w
 refine Bv cC [⟨w.heap.size,0,[.int .i64 p0a,.int .i64 p0b],29,true⟩] K1 [(0,0)] fun w1 K2=>?_
 refine Ak K2 (Es p0a p0b w1) fun w2 K3=>?_
 refine AC TS K3 [] fun w3 K4=>?_
 refine AK (!(C4 p0a p0b)) (fun c4=>?_) (fun c4=>?_)
 ·refine AC kz K4 [] fun w5 K5=>?_
  exact AM K5 (0,0) (.string ⟨⟨[]⟩⟩) (by unfold DJ; rw [c4] <;> rfl)
 ·refine AC cB K4 [(0,0)] fun w6 K6=>?_
  refine Ak K6 (args:=[.int .i64 p0a]) (Dr _ (by assumption) w6) fun w7 K7=>?_
  refine AC TR K7 [(0,1)] fun w8 K8=>?_
  refine AK (!(p0b == 1)) (fun c9=>?_) (fun c9=>?_)
  ·refine Ag 5 cA K8 [] fun w10 K9=>?_
   refine Aj K9 [(2,0,1)] [⟨3,[(15,.int .i64 p0b)],.string ⟨⟨Az p0b⟩⟩,true⟩,⟨4,[(16,.string ⟨⟨Az p0b⟩⟩)],.string ⟨⟨([47])++(Az p0b)⟩⟩,true⟩,⟨5,[(13,.string ⟨⟨Az p0a⟩⟩),(17,.string ⟨⟨([47])++(Az p0b)⟩⟩)],.string ⟨⟨(Az p0a)++(([47])++(Az p0b))⟩⟩,true⟩] K9.G (fun sp hsp=>?_) fun w11 E11 K10=>?_
   ·simp only [List.mem_cons,List.not_mem_nil,or_false] at hsp
    rcases hsp with rfl | rfl | rfl
    ·exact AR 63 [.tmp 15] [.int .i64 p0b] (fun _=>by kernel_rfl) fun hc u hu=>AP hu (Dr _ (by assumption) u)
    ·exact Av fun _ E u _=>BW (T:=9) (T':=9) (x:=.const (.string ⟨⟨[47]⟩⟩)) (y:=.tmp 16) (by have:=CK p0b; simp only [List.length_append,List.length_cons,List.length_nil]; omega)
    ·exact Av fun _ E u _=>BW (T:=9) (T':=9) (x:=.tmp 13) (y:=.tmp 17) (by have:=CK p0a; have:=CK p0b; simp only [List.length_append,List.length_cons,List.length_nil]; omega)
   refine AC ky K10 [] fun w12 K11=>?_
   exact AM K11 (0,0) (.string ⟨⟨(Az p0a)++(([47])++(Az p0b))⟩⟩) (by unfold DJ; rw [c4,c9] <;> rfl)
  ·refine AC kx K8 [] fun w13 K12=>?_
   exact AM K12 (0,0) (.string ⟨⟨Az p0a⟩⟩) (by unfold DJ; rw [c4,c9] <;> rfl)
theorem F3 (a b:Int):(DJ a b).length≤5:=by
 have:=CK a; have:=CK b
 unfold DJ
 cases C4 a b <;> cases b == 1 <;> simp <;> omega
theorem R8 {k:Int} (h:cond (k < 1) true (decide (20 < k))=false):0≤k∧k < 21:=by
 cases h1:decide (k < 1) with
 | true=>simp [h1] at h
 | false=>simp [h1] at h; simp at h1; omega
def EH (p0a:Int) (p0b:Int) (p0ca:Int) (p0cb:Int) (p0d:Int) (p0e:Int):List UInt8:=cond (cond (decide (p0a < 1)) (true) (decide (20 < p0a))) ([63]) (cond (p0a == 1) ((BI p0a)++([32])++(DJ p0ca p0cb)) (cond (p0a == 2) ((BI p0a)++([32])++(Az p0b)) (cond (p0a == 3) ((BI p0a)++([32])++(Az p0b)) (cond (p0a == 4) ((BI p0a)++([32])++(Az p0b)) (cond (p0a == 16) ((BI p0a)++([32])++(Az p0b)) (cond (p0a == 17) ((BI p0a)++([32])++(Az p0b)) (cond (p0a == 18) ((BI p0a)++([32])++(DJ p0ca p0cb)++([32])++(Az p0e)) (cond (p0a == 19) ((BI p0a)++([32])++(Az p0b)++([32])++(Az p0d)) (cond (p0a == 20) ((BI p0a)++([32])++(Az p0b)++([32])++(Az p0d)) (BI p0a))))))))))
noncomputable def YA:Code:=Tryz.f64.body.getD .skip
def iR:List Item:=Ac 1 ([.code YA])
def Tw:List Item:=AB 60 (AO iR)
def oE:List Item:=AB 60 (AG Tw)
def Zk:List Item:=AB (As Ae 90 (AL Tw)) (AL Tw)
def Zj:List Item:=AB 60 (AF (AF Zk))
def iQ:List Item:=Ac 6 (AG Zj)
def oD:List Item:=AB 60 (AO iQ)
def Zi:List Item:=AB 60 (AL Zj)
def iP:List Item:=AB 60 (AG Zi)
def iO:List Item:=Ac 12 (AG iP)
def lO:List Item:=AB 60 (AO iO)
def Tv:List Item:=AB 60 (AL Zi)
def cd:List Item:=AB 60 (AG Tv)
def cb:List Item:=Ac 12 (AG cd)
def lN:List Item:=AB 60 (AO cb)
def Tu:List Item:=AB 60 (AL Tv)
def cZ:List Item:=AB 60 (AG Tu)
def cY:List Item:=Ac 12 (AG cZ)
def lM:List Item:=AB 60 (AO cY)
def Tt:List Item:=AB 60 (AL Tu)
def cX:List Item:=AB 60 (AG Tt)
def cW:List Item:=Ac 12 (AG cX)
def lL:List Item:=AB 60 (AO cW)
def Ts:List Item:=AB 60 (AL Tt)
def cV:List Item:=Ac 12 (AG Ts)
def lK:List Item:=AB 60 (AO cV)
def Tr:List Item:=AB 60 (AL Ts)
def cU:List Item:=Ac 14 (AG Tr)
def lJ:List Item:=AB 60 (AO cU)
def Tq:List Item:=AB 60 (AL Tr)
def cT:List Item:=AB 60 (AG Tq)
def cS:List Item:=Ac 17 (AG cT)
def lI:List Item:=AB 60 (AO cS)
def Tp:List Item:=AB 60 (AL Tq)
def cR:List Item:=Ac 17 (AG Tp)
def lH:List Item:=AB 60 (AO cR)
def lG:List Item:=AB 60 (AL Tp)
theorem ae (p0a:Int) (p0b:Int) (p0ca:Int) (p0cb:Int) (p0d:Int) (p0e:Int) (w:World) (h_b:0≤p0b∧p0b < 100) (h_ca:0≤p0ca∧p0ca < 100) (h_cb:0≤p0cb∧p0cb < 100) (h_d:0≤p0d∧p0d < 100) (h_e:0≤p0e∧p0e < 100) (hNm:FT w):Calls Tryz.prog 64 ([.agg ⟨[.int .i64 p0a,.int .i64 p0b,.int .i64 p0ca,.int .i64 p0cb,.int .i64 p0d,.int .i64 p0e]⟩]:List Value).toArray w fun e w'=>e=.returned (.string ⟨⟨EH p0a p0b p0ca p0cb p0d p0e⟩⟩)∧Below w.heap.size w w':=by
 refine Ab (fn:=Tryz.f64) (c:=YA) (n:=66) ?_
 have K1:=Wk.start w
 refine Bw 1 iR [⟨w.heap.size,0,[.int .i64 p0a,.int .i64 p0b,.int .i64 p0ca,.int .i64 p0cb,.int .i64 p0d,.int .i64 p0e],53,true⟩] K1 [] fun w1 K2=>?_
 refine Aj K2 [(1,0,0),(5,0,0)] [] K2.G (fun sp hsp=>by cases hsp) fun w2 E2 K3=>?_
 refine AC Tw K3 [] fun w3 K4=>?_
 refine AK (cond (decide (p0a < 1)) (true) (decide (20 < p0a))) (fun c4=>?_) (fun c4=>?_)
 ·refine AC oE K4 [] fun w5 K5=>?_
  exact AM K5 (0,0) (.string ⟨⟨[63]⟩⟩) (by unfold EH; rw [c4] <;> rfl)
 ·refine BA Ae Zk K4 [(0,0)] fun w6 K6=>?_
  refine F5 (v:=.pointer (some ⟨SF,p0a.toNat,none⟩)) (w':=w6) (Xa (Ck Zk) (x:=.global 0) (i:=.tmp 13) (by kernel_rfl) (by kernel_rfl) (by kernel_rfl) Tryz.underlying156 (by kernel_rfl) (R8 (by assumption))) ?_
  refine Dm 9 SF p0a.toNat (.string ⟨⟨BI p0a⟩⟩) (some 15) ((El hNm K6.B) _ _ (aY (R8 (by assumption)))) ?_
  refine AC Zj K6 [(0,0)] fun w7 K7=>?_
  refine AK (p0a == 1) (fun c8=>?_) (fun c8=>?_)
  ·refine Ag 6 iQ K7 [] fun w9 K8=>?_
   refine Aj K8 [(3,0,2)] [⟨1,[(20,.string ⟨⟨BI p0a⟩⟩)],.string ⟨⟨(BI p0a)++([32])⟩⟩,true⟩,⟨4,[(23,.agg ⟨[.int .i64 p0ca,.int .i64 p0cb]⟩)],.string ⟨⟨DJ p0ca p0cb⟩⟩,true⟩,⟨5,[(21,.string ⟨⟨(BI p0a)++([32])⟩⟩),(24,.string ⟨⟨DJ p0ca p0cb⟩⟩)],.string ⟨⟨(BI p0a)++([32])++(DJ p0ca p0cb)⟩⟩,true⟩] K8.G (fun sp hsp=>?_) fun w10 E10 K9=>?_
   ·simp only [List.mem_cons,List.not_mem_nil,or_false] at hsp
    rcases hsp with rfl | rfl | rfl
    ·exact Av fun _ E u _=>BW (T:=9) (T':=9) (x:=.tmp 20) (y:=.const (.string ⟨⟨[32]⟩⟩)) (by have:=CD p0a; simp only [List.length_append,List.length_cons,List.length_nil]; omega)
    ·exact AR 103 [.tmp 23] [.agg ⟨[.int .i64 p0ca,.int .i64 p0cb]⟩] (fun _=>by kernel_rfl) fun hc u hu=>AP hu (Mr _ _ u (by assumption) (by assumption))
    ·exact Av fun _ E u _=>BW (T:=9) (T':=9) (x:=.tmp 21) (y:=.tmp 24) (by have:=CD p0a; have:=F3 p0ca p0cb; simp only [List.length_append,List.length_cons,List.length_nil]; omega)
   refine AC oD K9 [] fun w11 K10=>?_
   exact AM K10 (0,0) (.string ⟨⟨(BI p0a)++([32])++(DJ p0ca p0cb)⟩⟩) (by unfold EH; rw [c4,c8] <;> rfl)
  ·refine AC Zi K7 [] fun w12 K11=>?_
   refine AK (p0a == 2) (fun c13=>?_) (fun c13=>?_)
   ·refine AC iP K11 [] fun w14 K12=>?_
    refine AK (p0a == 2) (fun _=>?_) (fun h=>nomatch h.symm.trans c13)
    refine Ag 12 iO K12 [] fun w16 K13=>?_
    refine Aj K13 [(3,0,1)] [⟨1,[(32,.string ⟨⟨BI p0a⟩⟩)],.string ⟨⟨(BI p0a)++([32])⟩⟩,true⟩,⟨4,[(35,.int .i64 p0b)],.string ⟨⟨Az p0b⟩⟩,true⟩,⟨5,[(33,.string ⟨⟨(BI p0a)++([32])⟩⟩),(36,.string ⟨⟨Az p0b⟩⟩)],.string ⟨⟨(BI p0a)++([32])++(Az p0b)⟩⟩,true⟩] K13.G (fun sp hsp=>?_) fun w17 E17 K14=>?_
    ·simp only [List.mem_cons,List.not_mem_nil,or_false] at hsp
     rcases hsp with rfl | rfl | rfl
     ·exact Av fun _ E u _=>BW (T:=9) (T':=9) (x:=.tmp 32) (y:=.const (.string ⟨⟨[32]⟩⟩)) (by have:=CD p0a; simp only [List.length_append,List.length_cons,List.length_nil]; omega)
     ·exact AR 63 [.tmp 35] [.int .i64 p0b] (fun _=>by kernel_rfl) fun hc u hu=>AP hu (Dr _ (by assumption) u)
     ·exact Av fun _ E u _=>BW (T:=9) (T':=9) (x:=.tmp 33) (y:=.tmp 36) (by have:=CD p0a; have:=CK p0b; simp only [List.length_append,List.length_cons,List.length_nil]; omega)
    refine AC lO K14 [] fun w18 K15=>?_
    exact AM K15 (0,0) (.string ⟨⟨(BI p0a)++([32])++(Az p0b)⟩⟩) (by unfold EH; rw [c4,c8,c13] <;> rfl)
   ·refine AC Tv K11 [] fun w19 K16=>?_
    refine AK (p0a == 3) (fun c20=>?_) (fun c20=>?_)
    ·refine AC cd K16 [] fun w21 K17=>?_
     refine AK (p0a == 3) (fun _=>?_) (fun h=>nomatch h.symm.trans c20)
     refine Ag 12 cb K17 [] fun w23 K18=>?_
     refine Aj K18 [(3,0,1)] [⟨1,[(32,.string ⟨⟨BI p0a⟩⟩)],.string ⟨⟨(BI p0a)++([32])⟩⟩,true⟩,⟨4,[(35,.int .i64 p0b)],.string ⟨⟨Az p0b⟩⟩,true⟩,⟨5,[(33,.string ⟨⟨(BI p0a)++([32])⟩⟩),(36,.string ⟨⟨Az p0b⟩⟩)],.string ⟨⟨(BI p0a)++([32])++(Az p0b)⟩⟩,true⟩] K18.G (fun sp hsp=>?_) fun w24 E24 K19=>?_
     ·simp only [List.mem_cons,List.not_mem_nil,or_false] at hsp
      rcases hsp with rfl | rfl | rfl
      ·exact Av fun _ E u _=>BW (T:=9) (T':=9) (x:=.tmp 32) (y:=.const (.string ⟨⟨[32]⟩⟩)) (by have:=CD p0a; simp only [List.length_append,List.length_cons,List.length_nil]; omega)
      ·exact AR 63 [.tmp 35] [.int .i64 p0b] (fun _=>by kernel_rfl) fun hc u hu=>AP hu (Dr _ (by assumption) u)
      ·exact Av fun _ E u _=>BW (T:=9) (T':=9) (x:=.tmp 33) (y:=.tmp 36) (by have:=CD p0a; have:=CK p0b; simp only [List.length_append,List.length_cons,List.length_nil]; omega)
     refine AC lN K19 [] fun w25 K20=>?_
     exact AM K20 (0,0) (.string ⟨⟨(BI p0a)++([32])++(Az p0b)⟩⟩) (by unfold EH; rw [c4,c8,c13,c20] <;> rfl)
    ·refine AC Tu K16 [] fun w26 K21=>?_
     refine AK (p0a == 4) (fun c27=>?_) (fun c27=>?_)
     ·refine AC cZ K21 [] fun w28 K22=>?_
      refine AK (p0a == 4) (fun _=>?_) (fun h=>nomatch h.symm.trans c27)
      refine Ag 12 cY K22 [] fun w30 K23=>?_
      refine Aj K23 [(3,0,1)] [⟨1,[(32,.string ⟨⟨BI p0a⟩⟩)],.string ⟨⟨(BI p0a)++([32])⟩⟩,true⟩,⟨4,[(35,.int .i64 p0b)],.string ⟨⟨Az p0b⟩⟩,true⟩,⟨5,[(33,.string ⟨⟨(BI p0a)++([32])⟩⟩),(36,.string ⟨⟨Az p0b⟩⟩)],.string ⟨⟨(BI p0a)++([32])++(Az p0b)⟩⟩,true⟩] K23.G (fun sp hsp=>?_) fun w31 E31 K24=>?_
      ·simp only [List.mem_cons,List.not_mem_nil,or_false] at hsp
       rcases hsp with rfl | rfl | rfl
       ·exact Av fun _ E u _=>BW (T:=9) (T':=9) (x:=.tmp 32) (y:=.const (.string ⟨⟨[32]⟩⟩)) (by have:=CD p0a; simp only [List.length_append,List.length_cons,List.length_nil]; omega)
       ·exact AR 63 [.tmp 35] [.int .i64 p0b] (fun _=>by kernel_rfl) fun hc u hu=>AP hu (Dr _ (by assumption) u)
       ·exact Av fun _ E u _=>BW (T:=9) (T':=9) (x:=.tmp 33) (y:=.tmp 36) (by have:=CD p0a; have:=CK p0b; simp only [List.length_append,List.length_cons,List.length_nil]; omega)
      refine AC lM K24 [] fun w32 K25=>?_
      exact AM K25 (0,0) (.string ⟨⟨(BI p0a)++([32])++(Az p0b)⟩⟩) (by unfold EH; rw [c4,c8,c13,c20,c27] <;> rfl)
     ·refine AC Tt K21 [] fun w33 K26=>?_
      refine AK (p0a == 16) (fun c34=>?_) (fun c34=>?_)
      ·refine AC cX K26 [] fun w35 K27=>?_
       refine AK (p0a == 16) (fun _=>?_) (fun h=>nomatch h.symm.trans c34)
       refine Ag 12 cW K27 [] fun w37 K28=>?_
       refine Aj K28 [(3,0,1)] [⟨1,[(32,.string ⟨⟨BI p0a⟩⟩)],.string ⟨⟨(BI p0a)++([32])⟩⟩,true⟩,⟨4,[(35,.int .i64 p0b)],.string ⟨⟨Az p0b⟩⟩,true⟩,⟨5,[(33,.string ⟨⟨(BI p0a)++([32])⟩⟩),(36,.string ⟨⟨Az p0b⟩⟩)],.string ⟨⟨(BI p0a)++([32])++(Az p0b)⟩⟩,true⟩] K28.G (fun sp hsp=>?_) fun w38 E38 K29=>?_
       ·simp only [List.mem_cons,List.not_mem_nil,or_false] at hsp
        rcases hsp with rfl | rfl | rfl
        ·exact Av fun _ E u _=>BW (T:=9) (T':=9) (x:=.tmp 32) (y:=.const (.string ⟨⟨[32]⟩⟩)) (by have:=CD p0a; simp only [List.length_append,List.length_cons,List.length_nil]; omega)
        ·exact AR 63 [.tmp 35] [.int .i64 p0b] (fun _=>by kernel_rfl) fun hc u hu=>AP hu (Dr _ (by assumption) u)
        ·exact Av fun _ E u _=>BW (T:=9) (T':=9) (x:=.tmp 33) (y:=.tmp 36) (by have:=CD p0a; have:=CK p0b; simp only [List.length_append,List.length_cons,List.length_nil]; omega)
       refine AC lL K29 [] fun w39 K30=>?_
       exact AM K30 (0,0) (.string ⟨⟨(BI p0a)++([32])++(Az p0b)⟩⟩) (by unfold EH; rw [c4,c8,c13,c20,c27,c34] <;> rfl)
      ·refine AC Ts K26 [] fun w40 K31=>?_
       refine AK (p0a == 17) (fun c41=>?_) (fun c41=>?_)
       ·refine Ag 12 cV K31 [] fun w42 K32=>?_
        refine Aj K32 [(3,0,1)] [⟨1,[(32,.string ⟨⟨BI p0a⟩⟩)],.string ⟨⟨(BI p0a)++([32])⟩⟩,true⟩,⟨4,[(35,.int .i64 p0b)],.string ⟨⟨Az p0b⟩⟩,true⟩,⟨5,[(33,.string ⟨⟨(BI p0a)++([32])⟩⟩),(36,.string ⟨⟨Az p0b⟩⟩)],.string ⟨⟨(BI p0a)++([32])++(Az p0b)⟩⟩,true⟩] K32.G (fun sp hsp=>?_) fun w43 E43 K33=>?_
        ·simp only [List.mem_cons,List.not_mem_nil,or_false] at hsp
         rcases hsp with rfl | rfl | rfl
         ·exact Av fun _ E u _=>BW (T:=9) (T':=9) (x:=.tmp 32) (y:=.const (.string ⟨⟨[32]⟩⟩)) (by have:=CD p0a; simp only [List.length_append,List.length_cons,List.length_nil]; omega)
         ·exact AR 63 [.tmp 35] [.int .i64 p0b] (fun _=>by kernel_rfl) fun hc u hu=>AP hu (Dr _ (by assumption) u)
         ·exact Av fun _ E u _=>BW (T:=9) (T':=9) (x:=.tmp 33) (y:=.tmp 36) (by have:=CD p0a; have:=CK p0b; simp only [List.length_append,List.length_cons,List.length_nil]; omega)
        refine AC lK K33 [] fun w44 K34=>?_
        exact AM K34 (0,0) (.string ⟨⟨(BI p0a)++([32])++(Az p0b)⟩⟩) (by unfold EH; rw [c4,c8,c13,c20,c27,c34,c41] <;> rfl)
       ·refine AC Tr K31 [] fun w45 K35=>?_
        refine AK (p0a == 18) (fun c46=>?_) (fun c46=>?_)
        ·refine Ag 14 cU K35 [] fun w47 K36=>?_
         refine Aj K36 [(3,0,2),(8,0,5)] [⟨1,[(40,.string ⟨⟨BI p0a⟩⟩)],.string ⟨⟨(BI p0a)++([32])⟩⟩,true⟩,⟨4,[(43,.agg ⟨[.int .i64 p0ca,.int .i64 p0cb]⟩)],.string ⟨⟨DJ p0ca p0cb⟩⟩,true⟩,⟨5,[(41,.string ⟨⟨(BI p0a)++([32])⟩⟩),(44,.string ⟨⟨DJ p0ca p0cb⟩⟩)],.string ⟨⟨(BI p0a)++([32])++(DJ p0ca p0cb)⟩⟩,true⟩,⟨6,[(45,.string ⟨⟨(BI p0a)++([32])++(DJ p0ca p0cb)⟩⟩)],.string ⟨⟨(BI p0a)++([32])++(DJ p0ca p0cb)++([32])⟩⟩,true⟩,⟨9,[(48,.int .i64 p0e)],.string ⟨⟨Az p0e⟩⟩,true⟩,⟨10,[(46,.string ⟨⟨(BI p0a)++([32])++(DJ p0ca p0cb)++([32])⟩⟩),(49,.string ⟨⟨Az p0e⟩⟩)],.string ⟨⟨(BI p0a)++([32])++(DJ p0ca p0cb)++([32])++(Az p0e)⟩⟩,true⟩] K36.G (fun sp hsp=>?_) fun w48 E48 K37=>?_
         ·simp only [List.mem_cons,List.not_mem_nil,or_false] at hsp
          rcases hsp with rfl | rfl | rfl | rfl | rfl | rfl
          ·exact Av fun _ E u _=>BW (T:=9) (T':=9) (x:=.tmp 40) (y:=.const (.string ⟨⟨[32]⟩⟩)) (by have:=CD p0a; simp only [List.length_append,List.length_cons,List.length_nil]; omega)
          ·exact AR 103 [.tmp 43] [.agg ⟨[.int .i64 p0ca,.int .i64 p0cb]⟩] (fun _=>by kernel_rfl) fun hc u hu=>AP hu (Mr _ _ u (by assumption) (by assumption))
          ·exact Av fun _ E u _=>BW (T:=9) (T':=9) (x:=.tmp 41) (y:=.tmp 44) (by have:=CD p0a; have:=F3 p0ca p0cb; simp only [List.length_append,List.length_cons,List.length_nil]; omega)
          ·exact Av fun _ E u _=>BW (T:=9) (T':=9) (x:=.tmp 45) (y:=.const (.string ⟨⟨[32]⟩⟩)) (by have:=CD p0a; have:=F3 p0ca p0cb; simp only [List.length_append,List.length_cons,List.length_nil]; omega)
          ·exact AR 63 [.tmp 48] [.int .i64 p0e] (fun _=>by kernel_rfl) fun hc u hu=>AP hu (Dr _ (by assumption) u)
          ·exact Av fun _ E u _=>BW (T:=9) (T':=9) (x:=.tmp 46) (y:=.tmp 49) (by have:=CD p0a; have:=F3 p0ca p0cb; have:=CK p0e; simp only [List.length_append,List.length_cons,List.length_nil]; omega)
         refine AC lJ K37 [] fun w49 K38=>?_
         exact AM K38 (0,0) (.string ⟨⟨(BI p0a)++([32])++(DJ p0ca p0cb)++([32])++(Az p0e)⟩⟩) (by unfold EH; rw [c4,c8,c13,c20,c27,c34,c41,c46] <;> rfl)
        ·refine AC Tq K35 [] fun w50 K39=>?_
         refine AK (p0a == 19) (fun c51=>?_) (fun c51=>?_)
         ·refine AC cT K39 [] fun w52 K40=>?_
          refine AK (p0a == 19) (fun _=>?_) (fun h=>nomatch h.symm.trans c51)
          refine Ag 17 cS K40 [] fun w54 K41=>?_
          refine Aj K41 [(3,0,1),(8,0,4)] [⟨1,[(54,.string ⟨⟨BI p0a⟩⟩)],.string ⟨⟨(BI p0a)++([32])⟩⟩,true⟩,⟨4,[(57,.int .i64 p0b)],.string ⟨⟨Az p0b⟩⟩,true⟩,⟨5,[(55,.string ⟨⟨(BI p0a)++([32])⟩⟩),(58,.string ⟨⟨Az p0b⟩⟩)],.string ⟨⟨(BI p0a)++([32])++(Az p0b)⟩⟩,true⟩,⟨6,[(59,.string ⟨⟨(BI p0a)++([32])++(Az p0b)⟩⟩)],.string ⟨⟨(BI p0a)++([32])++(Az p0b)++([32])⟩⟩,true⟩,⟨9,[(62,.int .i64 p0d)],.string ⟨⟨Az p0d⟩⟩,true⟩,⟨10,[(60,.string ⟨⟨(BI p0a)++([32])++(Az p0b)++([32])⟩⟩),(63,.string ⟨⟨Az p0d⟩⟩)],.string ⟨⟨(BI p0a)++([32])++(Az p0b)++([32])++(Az p0d)⟩⟩,true⟩] K41.G (fun sp hsp=>?_) fun w55 E55 K42=>?_
          ·simp only [List.mem_cons,List.not_mem_nil,or_false] at hsp
           rcases hsp with rfl | rfl | rfl | rfl | rfl | rfl
           ·exact Av fun _ E u _=>BW (T:=9) (T':=9) (x:=.tmp 54) (y:=.const (.string ⟨⟨[32]⟩⟩)) (by have:=CD p0a; simp only [List.length_append,List.length_cons,List.length_nil]; omega)
           ·exact AR 63 [.tmp 57] [.int .i64 p0b] (fun _=>by kernel_rfl) fun hc u hu=>AP hu (Dr _ (by assumption) u)
           ·exact Av fun _ E u _=>BW (T:=9) (T':=9) (x:=.tmp 55) (y:=.tmp 58) (by have:=CD p0a; have:=CK p0b; simp only [List.length_append,List.length_cons,List.length_nil]; omega)
           ·exact Av fun _ E u _=>BW (T:=9) (T':=9) (x:=.tmp 59) (y:=.const (.string ⟨⟨[32]⟩⟩)) (by have:=CD p0a; have:=CK p0b; simp only [List.length_append,List.length_cons,List.length_nil]; omega)
           ·exact AR 63 [.tmp 62] [.int .i64 p0d] (fun _=>by kernel_rfl) fun hc u hu=>AP hu (Dr _ (by assumption) u)
           ·exact Av fun _ E u _=>BW (T:=9) (T':=9) (x:=.tmp 60) (y:=.tmp 63) (by have:=CD p0a; have:=CK p0b; have:=CK p0d; simp only [List.length_append,List.length_cons,List.length_nil]; omega)
          refine AC lI K42 [] fun w56 K43=>?_
          exact AM K43 (0,0) (.string ⟨⟨(BI p0a)++([32])++(Az p0b)++([32])++(Az p0d)⟩⟩) (by unfold EH; rw [c4,c8,c13,c20,c27,c34,c41,c46,c51] <;> rfl)
         ·refine AC Tp K39 [] fun w57 K44=>?_
          refine AK (p0a == 20) (fun c58=>?_) (fun c58=>?_)
          ·refine Ag 17 cR K44 [] fun w59 K45=>?_
           refine Aj K45 [(3,0,1),(8,0,4)] [⟨1,[(54,.string ⟨⟨BI p0a⟩⟩)],.string ⟨⟨(BI p0a)++([32])⟩⟩,true⟩,⟨4,[(57,.int .i64 p0b)],.string ⟨⟨Az p0b⟩⟩,true⟩,⟨5,[(55,.string ⟨⟨(BI p0a)++([32])⟩⟩),(58,.string ⟨⟨Az p0b⟩⟩)],.string ⟨⟨(BI p0a)++([32])++(Az p0b)⟩⟩,true⟩,⟨6,[(59,.string ⟨⟨(BI p0a)++([32])++(Az p0b)⟩⟩)],.string ⟨⟨(BI p0a)++([32])++(Az p0b)++([32])⟩⟩,true⟩,⟨9,[(62,.int .i64 p0d)],.string ⟨⟨Az p0d⟩⟩,true⟩,⟨10,[(60,.string ⟨⟨(BI p0a)++([32])++(Az p0b)++([32])⟩⟩),(63,.string ⟨⟨Az p0d⟩⟩)],.string ⟨⟨(BI p0a)++([32])++(Az p0b)++([32])++(Az p0d)⟩⟩,true⟩] K45.G (fun sp hsp=>?_) fun w60 E60 K46=>?_
           ·simp only [List.mem_cons,List.not_mem_nil,or_false] at hsp
            rcases hsp with rfl | rfl | rfl | rfl | rfl | rfl
            ·exact Av fun _ E u _=>BW (T:=9) (T':=9) (x:=.tmp 54) (y:=.const (.string ⟨⟨[32]⟩⟩)) (by have:=CD p0a; simp only [List.length_append,List.length_cons,List.length_nil]; omega)
            ·exact AR 63 [.tmp 57] [.int .i64 p0b] (fun _=>by kernel_rfl) fun hc u hu=>AP hu (Dr _ (by assumption) u)
            ·exact Av fun _ E u _=>BW (T:=9) (T':=9) (x:=.tmp 55) (y:=.tmp 58) (by have:=CD p0a; have:=CK p0b; simp only [List.length_append,List.length_cons,List.length_nil]; omega)
            ·exact Av fun _ E u _=>BW (T:=9) (T':=9) (x:=.tmp 59) (y:=.const (.string ⟨⟨[32]⟩⟩)) (by have:=CD p0a; have:=CK p0b; simp only [List.length_append,List.length_cons,List.length_nil]; omega)
            ·exact AR 63 [.tmp 62] [.int .i64 p0d] (fun _=>by kernel_rfl) fun hc u hu=>AP hu (Dr _ (by assumption) u)
            ·exact Av fun _ E u _=>BW (T:=9) (T':=9) (x:=.tmp 60) (y:=.tmp 63) (by have:=CD p0a; have:=CK p0b; have:=CK p0d; simp only [List.length_append,List.length_cons,List.length_nil]; omega)
           refine AC lH K46 [] fun w61 K47=>?_
           exact AM K47 (0,0) (.string ⟨⟨(BI p0a)++([32])++(Az p0b)++([32])++(Az p0d)⟩⟩) (by unfold EH; rw [c4,c8,c13,c20,c27,c34,c41,c46,c51,c58] <;> rfl)
          ·refine AC lG K44 [] fun w62 K48=>?_
           exact AM K48 (0,0) (.string ⟨⟨BI p0a⟩⟩) (by unfold EH; rw [c4,c8,c13,c20,c27,c34,c41,c46,c51,c58] <;> rfl)
end
end Go.Proofs.YtmcpjkcggfmcmaaGreatDoor

/-
  Part 22 of a proof: contracts of functions.
-/
import Derived.Test.YtmcpjkcggfmcmaaGreatDoorD21
set_option linter.all false
namespace Go.Proofs.YtmcpjkcggfmcmaaGreatDoor
noncomputable section
open Go.RowKit
set_option maxRecDepth 100000
set_option maxHeartbeats 1000000
attribute [local irreducible] BO CB AE AG AL Ay Aj AP Bc Cq Eb CT CO At Fr
def KB:List Value:=[.string ⟨⟨[]⟩⟩,.string ⟨⟨[112,117,115,104]⟩⟩,.string ⟨⟨[105,110,112,117,116]⟩⟩,.string ⟨⟨[114,111,117,116,105,110,101]⟩⟩,.string ⟨⟨[115,99,97,108,101]⟩⟩,.string ⟨⟨[97,100,100]⟩⟩,.string ⟨⟨[115,117,98]⟩⟩,.string ⟨⟨[109,117,108]⟩⟩,.string ⟨⟨[100,105,118]⟩⟩,.string ⟨⟨[108,101,115,115]⟩⟩,.string ⟨⟨[108,101,115,115,101,113,117,97,108]⟩⟩,.string ⟨⟨[101,113,117,97,108]⟩⟩,.string ⟨⟨[109,105,110]⟩⟩,.string ⟨⟨[109,97,120]⟩⟩,.string ⟨⟨[110,101,103]⟩⟩,.string ⟨⟨[110,111,116]⟩⟩,.string ⟨⟨[106,117,109,112]⟩⟩,.string ⟨⟨[117,110,108,101,115,115]⟩⟩,.string ⟨⟨[114,111,117,110,100]⟩⟩,.string ⟨⟨[97,118,101,114,97,103,101]⟩⟩,.string ⟨⟨[108,97,115,116]⟩⟩]
def Vu:Nat:=0
def Hs (w:World):Prop:=∀ (j:Nat) v,KB[j]?=some v→w.cell? ⟨Vu,j,none⟩=some v
theorem Gp {w w':World} (h:Hs w) (hb:Below w.heap.size w w'):Hs w':=fun j v c=>by
 have b:=h j v c
 have a:Vu < w.heap.size:=by
  cases hh:w.heap[Vu]? with
  | none=>simp [World.cell?,hh] at b
  | some x=>exact (Array.getElem?_eq_some_iff.1 hh).1
 exact (World.cell?_of_block (hb.block Vu a)).trans b
def BS (k:Int):List UInt8:=match KB[k.toNat]? with
 | some (.string ⟨⟨s⟩⟩)=>s
 | _=>[]
theorem iJ {k:Int} (h:0≤k∧k < 21):KB[k.toNat]?=some (.string ⟨⟨BS k⟩⟩):=by
 obtain ⟨n,rfl⟩:=Int.eq_ofNat_of_zero_le h.1
 have hn:n < 21:=by omega
 have key:∀ n:Fin 21,KB[((n.1:Nat):Int).toNat]?=some (.string ⟨⟨BS ((n.1:Nat):Int)⟩⟩):=by
  intro n
  match n with
  | ⟨0,_⟩ | ⟨1,_⟩ | ⟨2,_⟩ | ⟨3,_⟩ | ⟨4,_⟩ | ⟨5,_⟩ | ⟨6,_⟩ | ⟨7,_⟩ | ⟨8,_⟩ | ⟨9,_⟩ | ⟨10,_⟩ | ⟨11,_⟩ | ⟨12,_⟩ | ⟨13,_⟩ | ⟨14,_⟩ | ⟨15,_⟩ | ⟨16,_⟩ | ⟨17,_⟩ | ⟨18,_⟩ | ⟨19,_⟩ | ⟨20,_⟩=>rfl
  | ⟨n + 21,h⟩=>exact absurd h (by omega)
 exact key ⟨n,hn⟩
theorem cU {P:Program} {ρ:Operand→Value} {w:World} {t e:TypeId} {n b:Nat} {x i:Operand} {k:Int} (c:Oper) (ho:c.op=.indexAddr t x i) (d:ρ x=.pointer (some ⟨b,0,none⟩)) (hi:ρ i=D k) (f:P.underlying t=some (.array n e)) (hs:(P.info? e).map (·.size)=some 1)
  (h:0≤k∧k < (n:Int)):(execOp ρ c).run P w=.ok (.value (.pointer (some ⟨b,k.toNat,none⟩))) w:=by
 unfold execOp
 cases hq:P.info? e with
 | none=>rw [hq] at hs; cases hs
 | some inf=>
  have a:inf.size=1:=by rw [hq] at hs; exact Option.some.inj hs
  simp [ho,d,hi,Instr.indexAt,asIntOf,run_underlying f,h.1,h.2,sizeOf,typeInfo,hq,a,Addr.add,Instr.sureAddr]
  omega
def BE (n:Int):List UInt8:=cond (Nat.blt n.toNat 100) (Lib.decDigits n.toNat) []
theorem Ca (n:Int):(BE n).length≤2:=by
 unfold BE
 cases h:Nat.blt n.toNat 100 with
 | false=>exact Nat.zero_le _
 | true=>
  rw [Nat.blt_eq] at h
  have key:∀ k:Fin 100,(Lib.decDigits k.1).length≤2:=by decide +kernel
  exact key ⟨n.toNat,h⟩
theorem CU (k:Int):(BS k).length≤9:=by
 have key:∀ n:Fin 21,(BS ((n.1:Nat):Int)).length≤9:=by decide +kernel
 by_cases h:k.toNat < 21
 ·have:=key ⟨k.toNat,h⟩
  unfold BS at this ⊢
  exact this
 ·unfold BS
  rw [List.getElem?_eq_none (by simp only [KB,List.length_cons,List.length_nil]; omega)]
  exact Nat.zero_le _
theorem Bt {P:Program} {o:Oper} {ρ:Operand→Value} {w:World} {T T':TypeId} {x y:Operand} {a b:List UInt8} (hs:a.length + b.length≤1000) (hop:o.op=.binOp .add T x y T':=by kernel_rfl) (hx:ρ x=.string ⟨⟨a⟩⟩:=by kernel_rfl) (hy:ρ y=.string ⟨⟨b⟩⟩:=by kernel_rfl):(execOp ρ o).run P w=.ok (.value (.string ⟨⟨a++b⟩⟩)) w:=by
 have h:=UX (P:=P) (w:=w) hop hx hy (by show ((a.length + b.length:Nat):Int)≤9223372036854775807; omega)
 rw [show (⟨⟨a⟩⟩++⟨⟨b⟩⟩:ByteArray)=⟨⟨a++b⟩⟩ by apply ByteArray.ext; simp] at h
 exact h
theorem Es (n:Int) (h:0≤n∧n < 100) (w:World):Calls Tryz.prog 63 ([D n]:List Value).toArray w fun e w'=>e=.returned (.string ⟨⟨BE n⟩⟩)∧Below w.heap.size w w':=by
 obtain ⟨m,rfl⟩:=Int.eq_ofNat_of_zero_le h.1
 refine (Tryz.strconv_Itoa_small m (by omega) w).mono fun e w' a=>?_
 obtain ⟨rfl,rfl⟩:=a
 exact ⟨by unfold BE; rw [show Nat.blt ((m:Int)).toNat 100=true by rw [Nat.blt_eq]; omega]; rfl,Below.refl _ _⟩
def Do (p0a:Int) (p0b:Int):List UInt8:=cond (!(Db p0a p0b)) ([]) (cond (!(p0b == 1)) ((BE p0a)++(([47])++(BE p0b))) (BE p0a))
noncomputable def Vz:Code:=Tryz.f103.body.getD .skip
def jn:=AB 60 ([.code Vz])
def W9:=AB 60 (AE jn)
def sO:=AB 60 (AG W9)
def jm:=AB 60 (AL W9)
def W8:=AB 60 (AE jm)
def jl:=Ad 5 (AG W8)
def sN:=AB 60 (AP jl)
def sM:=AB 60 (AL W8)
theorem Pn (b a:Int) (w:World) (z:0≤b∧b < 100) (v:0≤a∧a < 100):Calls Tryz.prog 103 ([.agg ⟨[D b,D a]⟩]:List Value).toArray w fun e w'=>e=.returned (.string ⟨⟨Do b a⟩⟩)∧Below w.heap.size w w':=by
 refine Af (fn:=Tryz.f103) (c:=Vz) (n:=20) ?_
 have K1:=Wk.start w
 refine C8 jn [⟨w.heap.size,0,[D b,D a],29,true⟩] K1 [(0,0)] fun t K2=>?_
 refine Ap K2 (GN b a t) fun w2 K3=>?_
 refine AC W9 K3 [] fun w3 m=>?_
 refine AM (!(Db b a)) (fun f=>?_) (fun f=>?_)
 ·refine AC sO m [] fun w5 K5=>?_
  exact AO K5 (0,0) (.string ⟨⟨[]⟩⟩) (by unfold Do; rw [f] <;> rfl)
 ·refine AC jm m [(0,0)] fun o K6=>?_
  refine Ap K6 (args:=[D b]) (Es _ (by assumption) o) fun w7 K7=>?_
  refine AC W8 K7 [(0,1)] fun w8 l=>?_
  refine AM (!(a == 1)) (fun g=>?_) (fun g=>?_)
  ·refine Al 5 jl l [] fun s k=>?_
   refine Ao k [(2,0,1)] [⟨3,[(15,D a)],.string ⟨⟨BE a⟩⟩,true⟩,⟨4,[(16,.string ⟨⟨BE a⟩⟩)],.string ⟨⟨([47])++(BE a)⟩⟩,true⟩,⟨5,[(13,.string ⟨⟨BE b⟩⟩),(17,.string ⟨⟨([47])++(BE a)⟩⟩)],.string ⟨⟨(BE b)++(([47])++(BE a))⟩⟩,true⟩] k.G (fun sp d=>?_) fun r a0 j=>?_
   ·simp only [List.mem_cons,List.not_mem_nil,or_false] at d
    rcases d with rfl | rfl | rfl
    ·exact AX 63 [.tmp 15] [D a] (fun _=>by kernel_rfl) fun hc u hu=>AR hu (Es _ (by assumption) u)
    ·exact An fun _ E u _=>Bt (T:=9) (T':=9) (x:=.const (.string ⟨⟨[47]⟩⟩)) (y:=.tmp 16) (by have:=Ca a; simp only [List.length_append,List.length_cons,List.length_nil]; omega)
    ·exact An fun _ E u _=>Bt (T:=9) (T':=9) (x:=.tmp 13) (y:=.tmp 17) (by have:=Ca b; have:=Ca a; simp only [List.length_append,List.length_cons,List.length_nil]; omega)
   refine AC sN j [] fun q i=>?_
   exact AO i (0,0) (.string ⟨⟨(BE b)++(([47])++(BE a))⟩⟩) (by unfold Do; rw [f,g] <;> rfl)
  ·refine AC sM l [] fun p h=>?_
   exact AO h (0,0) (.string ⟨⟨BE b⟩⟩) (by unfold Do; rw [f,g] <;> rfl)
theorem H7 (a b:Int):(Do a b).length≤5:=by
 have:=Ca a; have:=Ca b
 unfold Do
 cases Db a b <;> cases b == 1 <;> simp <;> omega
theorem Vo {k:Int} (h:cond (k < 1) true (decide (20 < k))=false):0≤k∧k < 21:=by
 cases h1:decide (k < 1) with
 | true=>simp [h1] at h
 | false=>simp [h1] at h; simp at h1; omega
def FX (p0a:Int) (p0b:Int) (p0ca:Int) (p0cb:Int) (p0d:Int) (p0e:Int):List UInt8:=cond (cond (decide (p0a < 1)) (true) (decide (20 < p0a))) ([63]) (cond (p0a == 1) ((BS p0a)++([32])++(Do p0ca p0cb)) (cond (p0a == 2) ((BS p0a)++([32])++(BE p0b)) (cond (p0a == 3) ((BS p0a)++([32])++(BE p0b)) (cond (p0a == 4) ((BS p0a)++([32])++(BE p0b)) (cond (p0a == 16) ((BS p0a)++([32])++(BE p0b)) (cond (p0a == 17) ((BS p0a)++([32])++(BE p0b)) (cond (p0a == 18) ((BS p0a)++([32])++(Do p0ca p0cb)++([32])++(BE p0e)) (cond (p0a == 19) ((BS p0a)++([32])++(BE p0b)++([32])++(BE p0d)) (cond (p0a == 20) ((BS p0a)++([32])++(BE p0b)++([32])++(BE p0d)) (BS p0a))))))))))
noncomputable def dM:Code:=Tryz.f64.body.getD .skip
def o8:=Ad 1 ([.code dM])
def XZ:=AB 60 (AP o8)
def vY:=AB 60 (AG XZ)
def fW:=AB (BA Ai 90 (AL XZ)) (AL XZ)
def fV:=AB 60 (AE (AE fW))
def o7:=Ad 6 (AG fV)
def vX:=AB 60 (AP o7)
def fU:=AB 60 (AL fV)
def o6:=AB 60 (AG fU)
def o5:=Ad 12 (AG o6)
def sf:=AB 60 (AP o5)
def XY:=AB 60 (AL fU)
def kA:=AB 60 (AG XY)
def j9:=Ad 12 (AG kA)
def se:=AB 60 (AP j9)
def XX:=AB 60 (AL XY)
def j8:=AB 60 (AG XX)
def j7:=Ad 12 (AG j8)
def sc:=AB 60 (AP j7)
def XW:=AB 60 (AL XX)
def j6:=AB 60 (AG XW)
def j5:=Ad 12 (AG j6)
def sa:=AB 60 (AP j5)
def XV:=AB 60 (AL XW)
def j4:=Ad 12 (AG XV)
def sZ:=AB 60 (AP j4)
def XU:=AB 60 (AL XV)
def j3:=Ad 14 (AG XU)
def sY:=AB 60 (AP j3)
def XT:=AB 60 (AL XU)
def j2:=AB 60 (AG XT)
def j1:=Ad 17 (AG j2)
def sX:=AB 60 (AP j1)
def XS:=AB 60 (AL XT)
def j0:=Ad 17 (AG XS)
def sW:=AB 60 (AP j0)
def sV:=AB 60 (AL XS)
theorem iO (a b f d j k:Int) (w:World) (f4:0≤b∧b < 100) (d2:0≤f∧f < 100) (c2:0≤d∧d < 100) (e4:0≤j∧j < 100) (b4:0≤k∧k < 100) (z0:Hs w):Calls Tryz.prog 64 ([.agg ⟨[D a,D b,D f,D d,D j,D k]⟩]:List Value).toArray w fun e w'=>e=.returned (.string ⟨⟨FX a b f d j k⟩⟩)∧Below w.heap.size w w':=by
 refine Af (fn:=Tryz.f64) (c:=dM) (n:=66) ?_
 have K1:=Wk.start w
 refine CR 1 o8 [⟨w.heap.size,0,[D a,D b,D f,D d,D j,D k],53,true⟩] K1 [] fun w1 K2=>?_
 refine Ao K2 [(1,0,0),(5,0,0)] [] K2.G (fun sp g=>by cases g) fun w2 E2 K3=>?_
 refine AC XZ K3 [] fun w3 K4=>?_
 refine AM (cond (decide (a < 1)) (true) (decide (20 < a))) (fun r=>?_) (fun r=>?_)
 ·refine AC vY K4 [] fun w5 K5=>?_
  exact AO K5 (0,0) (.string ⟨⟨[63]⟩⟩) (by unfold FX; rw [r] <;> rfl)
 ·refine BG Ai fW K4 [(0,0)] fun w6 K6=>?_
  refine IA (v:=.pointer (some ⟨Vu,a.toNat,none⟩)) (w':=w6) (cU (DM fW) (x:=.global 0) (i:=.tmp 13) (by kernel_rfl) (by kernel_rfl) (by kernel_rfl) Tryz.underlying156 (by kernel_rfl) (Vo (by assumption))) ?_
  refine EA 9 Vu a.toNat (.string ⟨⟨BS a⟩⟩) (some 15) ((Gp z0 K6.B) _ _ (iJ (Vo (by assumption)))) ?_
  refine AC fV K6 [(0,0)] fun w7 K7=>?_
  refine AM (a == 1) (fun s=>?_) (fun s=>?_)
  ·refine Al 6 o7 K7 [] fun w9 K8=>?_
   refine Ao K8 [(3,0,2)] [⟨1,[(20,.string ⟨⟨BS a⟩⟩)],.string ⟨⟨(BS a)++([32])⟩⟩,true⟩,⟨4,[(23,.agg ⟨[D f,D d]⟩)],.string ⟨⟨Do f d⟩⟩,true⟩,⟨5,[(21,.string ⟨⟨(BS a)++([32])⟩⟩),(24,.string ⟨⟨Do f d⟩⟩)],.string ⟨⟨(BS a)++([32])++(Do f d)⟩⟩,true⟩] K8.G (fun sp g=>?_) fun a4 t4 K9=>?_
   ·simp only [List.mem_cons,List.not_mem_nil,or_false] at g
    rcases g with rfl | rfl | rfl
    ·exact An fun _ E u _=>Bt (T:=9) (T':=9) (x:=.tmp 20) (y:=.const (.string ⟨⟨[32]⟩⟩)) (by have:=CU a; simp only [List.length_append,List.length_cons,List.length_nil]; omega)
    ·exact AX 103 [.tmp 23] [.agg ⟨[D f,D d]⟩] (fun _=>by kernel_rfl) fun hc u hu=>AR hu (Pn _ _ u (by assumption) (by assumption))
    ·exact An fun _ E u _=>Bt (T:=9) (T':=9) (x:=.tmp 21) (y:=.tmp 24) (by have:=CU a; have:=H7 f d; simp only [List.length_append,List.length_cons,List.length_nil]; omega)
   refine AC vX K9 [] fun z3 b2=>?_
   exact AO b2 (0,0) (.string ⟨⟨(BS a)++([32])++(Do f d)⟩⟩) (by unfold FX; rw [r,s] <;> rfl)
  ·refine AC fU K7 [] fun y3 y0=>?_
   refine AM (a == 2) (fun l=>?_) (fun l=>?_)
   ·refine AC o6 y0 [] fun x3 a2=>?_
    refine AM (a == 2) (fun _=>?_) (fun h=>nomatch h.symm.trans l)
    refine Al 12 o5 a2 [] fun v3 x0=>?_
    refine Ao x0 [(3,0,1)] [⟨1,[(32,.string ⟨⟨BS a⟩⟩)],.string ⟨⟨(BS a)++([32])⟩⟩,true⟩,⟨4,[(35,D b)],.string ⟨⟨BE b⟩⟩,true⟩,⟨5,[(33,.string ⟨⟨(BS a)++([32])⟩⟩),(36,.string ⟨⟨BE b⟩⟩)],.string ⟨⟨(BS a)++([32])++(BE b)⟩⟩,true⟩] x0.G (fun sp g=>?_) fun u3 s4 z1=>?_
    ·simp only [List.mem_cons,List.not_mem_nil,or_false] at g
     rcases g with rfl | rfl | rfl
     ·exact An fun _ E u _=>Bt (T:=9) (T':=9) (x:=.tmp 32) (y:=.const (.string ⟨⟨[32]⟩⟩)) (by have:=CU a; simp only [List.length_append,List.length_cons,List.length_nil]; omega)
     ·exact AX 63 [.tmp 35] [D b] (fun _=>by kernel_rfl) fun hc u hu=>AR hu (Es _ (by assumption) u)
     ·exact An fun _ E u _=>Bt (T:=9) (T':=9) (x:=.tmp 33) (y:=.tmp 36) (by have:=CU a; have:=Ca b; simp only [List.length_append,List.length_cons,List.length_nil]; omega)
    refine AC sf z1 [] fun t3 y1=>?_
    exact AO y1 (0,0) (.string ⟨⟨(BS a)++([32])++(BE b)⟩⟩) (by unfold FX; rw [r,s,l] <;> rfl)
   ·refine AC XY y0 [] fun s3 w0=>?_
    refine AM (a == 3) (fun m=>?_) (fun m=>?_)
    ·refine AC kA w0 [] fun r3 x1=>?_
     refine AM (a == 3) (fun _=>?_) (fun h=>nomatch h.symm.trans m)
     refine Al 12 j9 x1 [] fun q3 v0=>?_
     refine Ao v0 [(3,0,1)] [⟨1,[(32,.string ⟨⟨BS a⟩⟩)],.string ⟨⟨(BS a)++([32])⟩⟩,true⟩,⟨4,[(35,D b)],.string ⟨⟨BE b⟩⟩,true⟩,⟨5,[(33,.string ⟨⟨(BS a)++([32])⟩⟩),(36,.string ⟨⟨BE b⟩⟩)],.string ⟨⟨(BS a)++([32])++(BE b)⟩⟩,true⟩] v0.G (fun sp g=>?_) fun m3 r4 v1=>?_
     ·simp only [List.mem_cons,List.not_mem_nil,or_false] at g
      rcases g with rfl | rfl | rfl
      ·exact An fun _ E u _=>Bt (T:=9) (T':=9) (x:=.tmp 32) (y:=.const (.string ⟨⟨[32]⟩⟩)) (by have:=CU a; simp only [List.length_append,List.length_cons,List.length_nil]; omega)
      ·exact AX 63 [.tmp 35] [D b] (fun _=>by kernel_rfl) fun hc u hu=>AR hu (Es _ (by assumption) u)
      ·exact An fun _ E u _=>Bt (T:=9) (T':=9) (x:=.tmp 33) (y:=.tmp 36) (by have:=CU a; have:=Ca b; simp only [List.length_append,List.length_cons,List.length_nil]; omega)
     refine AC se v1 [] fun l3 t1=>?_
     exact AO t1 (0,0) (.string ⟨⟨(BS a)++([32])++(BE b)⟩⟩) (by unfold FX; rw [r,s,l,m] <;> rfl)
    ·refine AC XX w0 [] fun k3 t0=>?_
     refine AM (a == 4) (fun o=>?_) (fun o=>?_)
     ·refine AC j8 t0 [] fun i3 s1=>?_
      refine AM (a == 4) (fun _=>?_) (fun h=>nomatch h.symm.trans o)
      refine Al 12 j7 s1 [] fun h3 r0=>?_
      refine Ao r0 [(3,0,1)] [⟨1,[(32,.string ⟨⟨BS a⟩⟩)],.string ⟨⟨(BS a)++([32])⟩⟩,true⟩,⟨4,[(35,D b)],.string ⟨⟨BE b⟩⟩,true⟩,⟨5,[(33,.string ⟨⟨(BS a)++([32])⟩⟩),(36,.string ⟨⟨BE b⟩⟩)],.string ⟨⟨(BS a)++([32])++(BE b)⟩⟩,true⟩] r0.G (fun sp g=>?_) fun g3 q4 r1=>?_
      ·simp only [List.mem_cons,List.not_mem_nil,or_false] at g
       rcases g with rfl | rfl | rfl
       ·exact An fun _ E u _=>Bt (T:=9) (T':=9) (x:=.tmp 32) (y:=.const (.string ⟨⟨[32]⟩⟩)) (by have:=CU a; simp only [List.length_append,List.length_cons,List.length_nil]; omega)
       ·exact AX 63 [.tmp 35] [D b] (fun _=>by kernel_rfl) fun hc u hu=>AR hu (Es _ (by assumption) u)
       ·exact An fun _ E u _=>Bt (T:=9) (T':=9) (x:=.tmp 33) (y:=.tmp 36) (by have:=CU a; have:=Ca b; simp only [List.length_append,List.length_cons,List.length_nil]; omega)
      refine AC sc r1 [] fun f3 q1=>?_
      exact AO q1 (0,0) (.string ⟨⟨(BS a)++([32])++(BE b)⟩⟩) (by unfold FX; rw [r,s,l,m,o] <;> rfl)
     ·refine AC XW t0 [] fun e3 q0=>?_
      refine AM (a == 16) (fun p=>?_) (fun p=>?_)
      ·refine AC j6 q0 [] fun d3 p1=>?_
       refine AM (a == 16) (fun _=>?_) (fun h=>nomatch h.symm.trans p)
       refine Al 12 j5 p1 [] fun c3 p0=>?_
       refine Ao p0 [(3,0,1)] [⟨1,[(32,.string ⟨⟨BS a⟩⟩)],.string ⟨⟨(BS a)++([32])⟩⟩,true⟩,⟨4,[(35,D b)],.string ⟨⟨BE b⟩⟩,true⟩,⟨5,[(33,.string ⟨⟨(BS a)++([32])⟩⟩),(36,.string ⟨⟨BE b⟩⟩)],.string ⟨⟨(BS a)++([32])++(BE b)⟩⟩,true⟩] p0.G (fun sp g=>?_) fun b3 m4 n1=>?_
       ·simp only [List.mem_cons,List.not_mem_nil,or_false] at g
        rcases g with rfl | rfl | rfl
        ·exact An fun _ E u _=>Bt (T:=9) (T':=9) (x:=.tmp 32) (y:=.const (.string ⟨⟨[32]⟩⟩)) (by have:=CU a; simp only [List.length_append,List.length_cons,List.length_nil]; omega)
        ·exact AX 63 [.tmp 35] [D b] (fun _=>by kernel_rfl) fun hc u hu=>AR hu (Es _ (by assumption) u)
        ·exact An fun _ E u _=>Bt (T:=9) (T':=9) (x:=.tmp 33) (y:=.tmp 36) (by have:=CU a; have:=Ca b; simp only [List.length_append,List.length_cons,List.length_nil]; omega)
       refine AC sa n1 [] fun a3 m1=>?_
       exact AO m1 (0,0) (.string ⟨⟨(BS a)++([32])++(BE b)⟩⟩) (by unfold FX; rw [r,s,l,m,o,p] <;> rfl)
      ·refine AC XV q0 [] fun z2 k0=>?_
       refine AM (a == 17) (fun q=>?_) (fun q=>?_)
       ·refine Al 12 j4 k0 [] fun y2 i0=>?_
        refine Ao i0 [(3,0,1)] [⟨1,[(32,.string ⟨⟨BS a⟩⟩)],.string ⟨⟨(BS a)++([32])⟩⟩,true⟩,⟨4,[(35,D b)],.string ⟨⟨BE b⟩⟩,true⟩,⟨5,[(33,.string ⟨⟨(BS a)++([32])⟩⟩),(36,.string ⟨⟨BE b⟩⟩)],.string ⟨⟨(BS a)++([32])++(BE b)⟩⟩,true⟩] i0.G (fun sp g=>?_) fun x2 k4 k1=>?_
        ·simp only [List.mem_cons,List.not_mem_nil,or_false] at g
         rcases g with rfl | rfl | rfl
         ·exact An fun _ E u _=>Bt (T:=9) (T':=9) (x:=.tmp 32) (y:=.const (.string ⟨⟨[32]⟩⟩)) (by have:=CU a; simp only [List.length_append,List.length_cons,List.length_nil]; omega)
         ·exact AX 63 [.tmp 35] [D b] (fun _=>by kernel_rfl) fun hc u hu=>AR hu (Es _ (by assumption) u)
         ·exact An fun _ E u _=>Bt (T:=9) (T':=9) (x:=.tmp 33) (y:=.tmp 36) (by have:=CU a; have:=Ca b; simp only [List.length_append,List.length_cons,List.length_nil]; omega)
        refine AC sZ k1 [] fun v2 i1=>?_
        exact AO i1 (0,0) (.string ⟨⟨(BS a)++([32])++(BE b)⟩⟩) (by unfold FX; rw [r,s,l,m,o,p,q] <;> rfl)
       ·refine AC XU k0 [] fun u2 h0=>?_
        refine AM (a == 18) (fun z=>?_) (fun z=>?_)
        ·refine Al 14 j3 h0 [] fun t2 f0=>?_
         refine Ao f0 [(3,0,2),(8,0,5)] [⟨1,[(40,.string ⟨⟨BS a⟩⟩)],.string ⟨⟨(BS a)++([32])⟩⟩,true⟩,⟨4,[(43,.agg ⟨[D f,D d]⟩)],.string ⟨⟨Do f d⟩⟩,true⟩,⟨5,[(41,.string ⟨⟨(BS a)++([32])⟩⟩),(44,.string ⟨⟨Do f d⟩⟩)],.string ⟨⟨(BS a)++([32])++(Do f d)⟩⟩,true⟩,⟨6,[(45,.string ⟨⟨(BS a)++([32])++(Do f d)⟩⟩)],.string ⟨⟨(BS a)++([32])++(Do f d)++([32])⟩⟩,true⟩,⟨9,[(48,D k)],.string ⟨⟨BE k⟩⟩,true⟩,⟨10,[(46,.string ⟨⟨(BS a)++([32])++(Do f d)++([32])⟩⟩),(49,.string ⟨⟨BE k⟩⟩)],.string ⟨⟨(BS a)++([32])++(Do f d)++([32])++(BE k)⟩⟩,true⟩] f0.G (fun sp g=>?_) fun s2 i4 h1=>?_
         ·simp only [List.mem_cons,List.not_mem_nil,or_false] at g
          rcases g with rfl | rfl | rfl | rfl | rfl | rfl
          ·exact An fun _ E u _=>Bt (T:=9) (T':=9) (x:=.tmp 40) (y:=.const (.string ⟨⟨[32]⟩⟩)) (by have:=CU a; simp only [List.length_append,List.length_cons,List.length_nil]; omega)
          ·exact AX 103 [.tmp 43] [.agg ⟨[D f,D d]⟩] (fun _=>by kernel_rfl) fun hc u hu=>AR hu (Pn _ _ u (by assumption) (by assumption))
          ·exact An fun _ E u _=>Bt (T:=9) (T':=9) (x:=.tmp 41) (y:=.tmp 44) (by have:=CU a; have:=H7 f d; simp only [List.length_append,List.length_cons,List.length_nil]; omega)
          ·exact An fun _ E u _=>Bt (T:=9) (T':=9) (x:=.tmp 45) (y:=.const (.string ⟨⟨[32]⟩⟩)) (by have:=CU a; have:=H7 f d; simp only [List.length_append,List.length_cons,List.length_nil]; omega)
          ·exact AX 63 [.tmp 48] [D k] (fun _=>by kernel_rfl) fun hc u hu=>AR hu (Es _ (by assumption) u)
          ·exact An fun _ E u _=>Bt (T:=9) (T':=9) (x:=.tmp 46) (y:=.tmp 49) (by have:=CU a; have:=H7 f d; have:=Ca k; simp only [List.length_append,List.length_cons,List.length_nil]; omega)
         refine AC sY h1 [] fun r2 g1=>?_
         exact AO g1 (0,0) (.string ⟨⟨(BS a)++([32])++(Do f d)++([32])++(BE k)⟩⟩) (by unfold FX; rw [r,s,l,m,o,p,q,z] <;> rfl)
        ·refine AC XT h0 [] fun q2 e0=>?_
         refine AM (a == 19) (fun t=>?_) (fun t=>?_)
         ·refine AC j2 e0 [] fun p2 f1=>?_
          refine AM (a == 19) (fun _=>?_) (fun h=>nomatch h.symm.trans t)
          refine Al 17 j1 f1 [] fun m2 d0=>?_
          refine Ao d0 [(3,0,1),(8,0,4)] [⟨1,[(54,.string ⟨⟨BS a⟩⟩)],.string ⟨⟨(BS a)++([32])⟩⟩,true⟩,⟨4,[(57,D b)],.string ⟨⟨BE b⟩⟩,true⟩,⟨5,[(55,.string ⟨⟨(BS a)++([32])⟩⟩),(58,.string ⟨⟨BE b⟩⟩)],.string ⟨⟨(BS a)++([32])++(BE b)⟩⟩,true⟩,⟨6,[(59,.string ⟨⟨(BS a)++([32])++(BE b)⟩⟩)],.string ⟨⟨(BS a)++([32])++(BE b)++([32])⟩⟩,true⟩,⟨9,[(62,D j)],.string ⟨⟨BE j⟩⟩,true⟩,⟨10,[(60,.string ⟨⟨(BS a)++([32])++(BE b)++([32])⟩⟩),(63,.string ⟨⟨BE j⟩⟩)],.string ⟨⟨(BS a)++([32])++(BE b)++([32])++(BE j)⟩⟩,true⟩] d0.G (fun sp g=>?_) fun l2 h4 e1=>?_
          ·simp only [List.mem_cons,List.not_mem_nil,or_false] at g
           rcases g with rfl | rfl | rfl | rfl | rfl | rfl
           ·exact An fun _ E u _=>Bt (T:=9) (T':=9) (x:=.tmp 54) (y:=.const (.string ⟨⟨[32]⟩⟩)) (by have:=CU a; simp only [List.length_append,List.length_cons,List.length_nil]; omega)
           ·exact AX 63 [.tmp 57] [D b] (fun _=>by kernel_rfl) fun hc u hu=>AR hu (Es _ (by assumption) u)
           ·exact An fun _ E u _=>Bt (T:=9) (T':=9) (x:=.tmp 55) (y:=.tmp 58) (by have:=CU a; have:=Ca b; simp only [List.length_append,List.length_cons,List.length_nil]; omega)
           ·exact An fun _ E u _=>Bt (T:=9) (T':=9) (x:=.tmp 59) (y:=.const (.string ⟨⟨[32]⟩⟩)) (by have:=CU a; have:=Ca b; simp only [List.length_append,List.length_cons,List.length_nil]; omega)
           ·exact AX 63 [.tmp 62] [D j] (fun _=>by kernel_rfl) fun hc u hu=>AR hu (Es _ (by assumption) u)
           ·exact An fun _ E u _=>Bt (T:=9) (T':=9) (x:=.tmp 60) (y:=.tmp 63) (by have:=CU a; have:=Ca b; have:=Ca j; simp only [List.length_append,List.length_cons,List.length_nil]; omega)
          refine AC sX e1 [] fun k2 d1=>?_
          exact AO d1 (0,0) (.string ⟨⟨(BS a)++([32])++(BE b)++([32])++(BE j)⟩⟩) (by unfold FX; rw [r,s,l,m,o,p,q,z,t] <;> rfl)
         ·refine AC XS e0 [] fun i2 c0=>?_
          refine AM (a == 20) (fun a0=>?_) (fun a0=>?_)
          ·refine Al 17 j0 c0 [] fun h2 b0=>?_
           refine Ao b0 [(3,0,1),(8,0,4)] [⟨1,[(54,.string ⟨⟨BS a⟩⟩)],.string ⟨⟨(BS a)++([32])⟩⟩,true⟩,⟨4,[(57,D b)],.string ⟨⟨BE b⟩⟩,true⟩,⟨5,[(55,.string ⟨⟨(BS a)++([32])⟩⟩),(58,.string ⟨⟨BE b⟩⟩)],.string ⟨⟨(BS a)++([32])++(BE b)⟩⟩,true⟩,⟨6,[(59,.string ⟨⟨(BS a)++([32])++(BE b)⟩⟩)],.string ⟨⟨(BS a)++([32])++(BE b)++([32])⟩⟩,true⟩,⟨9,[(62,D j)],.string ⟨⟨BE j⟩⟩,true⟩,⟨10,[(60,.string ⟨⟨(BS a)++([32])++(BE b)++([32])⟩⟩),(63,.string ⟨⟨BE j⟩⟩)],.string ⟨⟨(BS a)++([32])++(BE b)++([32])++(BE j)⟩⟩,true⟩] b0.G (fun sp g=>?_) fun g2 g4 c1=>?_
           ·simp only [List.mem_cons,List.not_mem_nil,or_false] at g
            rcases g with rfl | rfl | rfl | rfl | rfl | rfl
            ·exact An fun _ E u _=>Bt (T:=9) (T':=9) (x:=.tmp 54) (y:=.const (.string ⟨⟨[32]⟩⟩)) (by have:=CU a; simp only [List.length_append,List.length_cons,List.length_nil]; omega)
            ·exact AX 63 [.tmp 57] [D b] (fun _=>by kernel_rfl) fun hc u hu=>AR hu (Es _ (by assumption) u)
            ·exact An fun _ E u _=>Bt (T:=9) (T':=9) (x:=.tmp 55) (y:=.tmp 58) (by have:=CU a; have:=Ca b; simp only [List.length_append,List.length_cons,List.length_nil]; omega)
            ·exact An fun _ E u _=>Bt (T:=9) (T':=9) (x:=.tmp 59) (y:=.const (.string ⟨⟨[32]⟩⟩)) (by have:=CU a; have:=Ca b; simp only [List.length_append,List.length_cons,List.length_nil]; omega)
            ·exact AX 63 [.tmp 62] [D j] (fun _=>by kernel_rfl) fun hc u hu=>AR hu (Es _ (by assumption) u)
            ·exact An fun _ E u _=>Bt (T:=9) (T':=9) (x:=.tmp 60) (y:=.tmp 63) (by have:=CU a; have:=Ca b; have:=Ca j; simp only [List.length_append,List.length_cons,List.length_nil]; omega)
           refine AC sW c1 [] fun f2 b1=>?_
           exact AO b1 (0,0) (.string ⟨⟨(BS a)++([32])++(BE b)++([32])++(BE j)⟩⟩) (by unfold FX; rw [r,s,l,m,o,p,q,z,t,a0] <;> rfl)
          ·refine AC sV c0 [] fun e2 a1=>?_
           exact AO a1 (0,0) (.string ⟨⟨BS a⟩⟩) (by unfold FX; rw [r,s,l,m,o,p,q,z,t,a0] <;> rfl)
end
end Go.Proofs.YtmcpjkcggfmcmaaGreatDoor

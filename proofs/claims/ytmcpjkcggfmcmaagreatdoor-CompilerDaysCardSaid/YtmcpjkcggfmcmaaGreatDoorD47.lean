/-
  Part 47 of a proof: contracts of functions.
-/
import Derived.Test.YtmcpjkcggfmcmaaGreatDoorD46
import Derived.Test.YtmcpjkcggfmcmaaGreatDoorD40
set_option linter.all false
namespace Go.Proofs.YtmcpjkcggfmcmaaGreatDoor
noncomputable section
open Go.RowKit
noncomputable def Uu:Code:=Tryz.f12.body.getD .skip
def rG:=AB 90 [.code Uu]
def rF:=AB 90 (AE rG)
def rE:=AB 90 (AE rF)
def rD:=AB 90 (AE rE)
def ll:=AB 90 (AE rD)
def rC:=AB 90 (AP ll)
def lk:=AB 90 (AE rC)
def bH:=AB 90 (AG lk)
def qx:=AB 90 (AP bH)
def qw:=AB 90 (AE qx)
def qv:=AB 90 (AE qw)
def qu:=AB 90 (AE qv)
def TY:=AB 90 (AE qu)
def Vi:=AB 90 (Ay TY)
def qq:=AB 90 (AG Vi)
def Vh:=AB 90 (AE qq)
def TS:=AB 90 (AL Vh)
def qB:=AB 90 (Ay TS)
def kj:=AB 90 (AE qB)
def uN:=AB 90 (AG kj)
def aO:=AB 90 (AL Vi)
def pb:=AB 90 (Ay aO)
def aN:=AB 90 (AE pb)
def uM:=AB 90 (AG aN)
def pZ:=AB 90 (AL aN)
def aM:=AB 90 (AE pZ)
def aL:=AB 90 (Ay aM)
def pY:=AB 90 (AG aL)
def uL:=AB 90 (AP pY)
def wt:=AB 90 (AL aL)
def IB (b:Nat) (ns:List Int) (H:Nat) (w:World) (e:Ending) (w':World):Prop:=
 ∃ v rs,e=.returned (.agg #[Hl,v])∧w'.ownsRow (w.heap.size + 2) 34 21 v rs.length rs.flatten∧Fn (F4 (max 1 H)) (fun h=>w.heap.size + 2≤h) w' rs∧rs.length≤30∧Bl b ns w'∧Ae b w w'
section
variable {b:Nat} {ns:List Int} {H:Nat} {w:World} {v:Value} {X:List BI} {rs:List (List Value)} {wx:World} {E:Nat→Value} {wl:Bool}
theorem Ag.next {r:List Value} {c:Value} {n:Int} (h:Ag b ns H w r c v X rs wx) (j:0≤n) (i:n≤100) {K:Ending→World→Prop} (d:∀ (k:Nat) u,(k=0∨(k:Int) < n)→Ag b ns H w r c v X rs u→K (.returned (D k)) u) :
  Calls Tryz.prog 35 [pt b 0,D n].toArray wx K:=
 (CE b ns n wx h.ph.tape (by omega) (by omega)).mono fun e u ⟨k,a,he,f,g⟩=>by subst he; exact d k u a (h.call f g)
theorem CI:∀ e∈X,(∃ e'∈X,e'.id=e.id)∨wx.heap.size≤e.id:=fun e he=>.inl ⟨e,he,rfl⟩
set_option maxRecDepth 100000 in
set_option maxHeartbeats 1000000 in
theorem il {i:Nat} (hi:i≤3) (hA:Ag b ns (max 1 H) w Bk v v X rs wx) (h1:1≤rs.length) (h2:rs.length≤30) :
  At Tryz.prog 12 (IB b ns H w) aM (Fr 168 (Aw E (GR b w H wl i))) wx:=by
 refine Bi (by kernel_rfl) (fun E wx=>∃ (E':Nat→Value) (i:Nat) (v:Value) (rs:List (List Value)),E=Aw E' (GR b w H wl i)∧i≤3∧Ag b ns (max 1 H) w Bk v v X rs wx∧1≤rs.length∧rs.length≤30) (fun E _=>(iv (E 14)).toNat) ⟨E,i,v,rs,rfl,hi,hA,h1,h2⟩ ?_
 clear hA h1 h2 hi
 rintro E wx ⟨E',i,v,rs,rfl,hi,hA,h1,h2⟩ again
 obtain ⟨vA,vc,rfl⟩:=Ge hA.own
 let z0:=BM w Bk (.slice vA rs.length vc) X
 refine Am 90 (Ay aM) wx.heap.size _ [] aL ((136,.bool (decide (0 < (i:Int)))) :: GR b w H wl i) wx.heap.size z0 hA.ph.lies fun w1 E1 hL1 hK1=>?_
 have A1:=hA.run hK1 hL1 CI
 refine Cf (decide (0 < (i:Int))) (fun ht=>?_) (fun hf=>?_)
 ·have hi0:0 < i:=by have:(0:Int) < i:=(by simpa using ht); omega
  refine Am 90 (AG aL) w1.heap.size _ [] pY (GR b w H wl i) w1.heap.size z0 A1.ph.lies fun w2 E2 hL2 hK2=>?_
  have A2:=A1.run hK2 hL2 CI
  refine bT A2 h1 (by omega) (by kernel_rfl) fun n m u E3 hn hm A3=>?_
  refine Am 90 (AP pY) u.heap.size _ [] uL (Jf b w H wl i n m) u.heap.size z0 A3.ph.lies fun w4 E4 hL4 hK4=>?_
  have A4:=A3.run hK4 hL4 CI
  cases vA with
  | none=>
   rcases A4.own.2 with ⟨h0,h00⟩ | ⟨g,cap,cur,h0,_⟩
   ·omega
   ·cases h0
  | some ad=>
   have had:∃ g,ad=⟨g,0,none⟩:=by
    rcases A4.own.2 with ⟨h0,_⟩ | ⟨g,cap,cur,h0,_⟩
    ·cases h0
    ·injection h0 with h0; exact ⟨g,Option.some.inj h0⟩
   obtain ⟨g,rfl⟩:=had
   refine bS A4 hn hm (by kernel_rfl) fun rs' u5 E5 hl A5=>?_
   rw [← hl] at A5
   refine Am 90 (AP uL) u5.heap.size _ [] (Aj aM) (GR b w H wl (IntKind.i64.wrap (i - 1))) u5.heap.size (BM w Bk (.slice (some ⟨g,0,none⟩) rs'.length vc) X) A5.ph.lies fun w6 E6 hL6 hK6=>?_
   have A6:=A5.run hK6 hL6 CI
   rw [show IntKind.i64.wrap ((i:Int) - 1)=((i - 1:Nat):Int) by rw [IntWalk.i64_in _ (by omega)]; omega]
   refine again _ _ ⟨E6,i - 1,_,rs',rfl,by omega,A6,by omega,by omega⟩ ?_
   show (((i - 1:Nat):Int)).toNat < ((i:Int)).toNat
   omega
 ·refine Am 90 (AL aL) w1.heap.size _ [(1,0),(0,0)] wt (GR b w H wl i) w1.heap.size (BM w [Hl,.slice vA rs.length vc] (.slice vA rs.length vc) X) A1.ph.lies fun w2 E2 hL2 hK2=>?_
  have A2:=A1.run hK2 hL2 CI
  refine QE (fn:=Tryz.f12) (by kernel_rfl) (by kernel_rfl) ⟨0,BM w [Hl,.slice vA rs.length vc] (.slice vA rs.length vc) X,(0,0),[]⟩ A2.ph.lies.sat.good (.agg #[Hl,.slice vA rs.length vc]) (by kernel_rfl) (by kernel_rfl) ?_
  exact ⟨_,rs,rfl,A2.own,A2.ok.keep (Nat.le_refl _) (fun g hS _=>⟨hS.1,rfl⟩),h2,A2.ph.tape,A2.ph.but⟩
set_option maxRecDepth 100000 in
set_option maxHeartbeats 1000000 in
theorem im (IH:Bv b ns H) (hH:H≤100) (hA:Ag b ns (max 1 H) w Bk v v X rs wx) (h1:1≤rs.length) (h2:rs.length≤20) :
  At Tryz.prog 12 (IB b ns H w) aO (Fr 168 (Aw E (GC b w H wl 0))) wx:=by
 refine Bi (by kernel_rfl) (fun E wx=>∃ (E':Nat→Value) (i:Nat) (v:Value) (rs:List (List Value)),E=Aw E' (GC b w H wl i)∧i≤2∧Ag b ns (max 1 H) w Bk v v X rs wx∧1≤rs.length∧rs.length≤20 + i) (fun E _=>(2 - iv (E 13)).toNat) ⟨E,0,v,rs,rfl,by omega,hA,h1,by omega⟩ ?_
 clear hA h1 h2
 rintro E wx ⟨E',i,v,rs,rfl,hi,hA,h1,h2⟩ again
 refine Am 90 (Ay aO) wx.heap.size _ [] pb ((101,D i) :: (102,pt b 0) :: GC b w H wl i) wx.heap.size (BM w Bk v X) hA.ph.lies fun w1 E1 hL1 hK1=>?_
 have A1:=hA.run hK1 hL1 CI
 refine Cw 35 [.tmp 102,.const (D 2)] (some 103) [pt b 0,D 2] (A1.next (by omega) (by omega) fun k w2 hk A2=>⟨_,rfl,?_⟩)
 refine Am 90 (AE pb) w2.heap.size _ [] aN ((104,.bool (decide ((i:Int)≤k))) :: GC b w H wl i) w2.heap.size (BM w Bk v X) A2.ph.lies fun w3 E3 hL3 hK3=>?_
 have A3:=A2.run hK3 hL3 CI
 refine Cf (decide ((i:Int)≤k)) (fun ht=>?_) (fun hf=>?_)
 ·have hik:i≤1:=by have:(i:Int)≤k:=(by simpa using ht); omega
  refine Am 90 (AG aN) w3.heap.size _ [] uM (GC b w H wl i) w3.heap.size (BM w Bk v X) A3.ph.lies fun w4 E4 hL4 hK4=>?_
  have A4:=A3.run hK4 hL4 CI
  refine bU IH hH (by omega) (by rw [IntWalk.i64_in _ (by omega)]; omega) A4 (by omega) (by kernel_rfl) fun v' q u E5 A5 hq=>?_
  refine Am 90 (AP uM) u.heap.size _ [] (Aj aO) (DD b w H wl++[(13,D (IntKind.i64.wrap ((i:Int) + 1)))]) u.heap.size (BM w Bk v' X) A5.ph.lies fun w6 E6 hL6 hK6=>?_
  have A6:=A5.run hK6 hL6 CI
  rw [show IntKind.i64.wrap ((i:Int) + 1)=((i + 1:Nat):Int) by rw [IntWalk.i64_in _ (by omega)]; omega]
  refine again _ _ ⟨E6,i + 1,v',rs++q,rfl,by omega,A6,by simp; omega,by simp; omega⟩ ?_
  show (2 - ((i + 1:Nat):Int)).toNat < (2 - (i:Int)).toNat
  omega
 ·refine Am 90 (AL aN) w3.heap.size _ [] pZ ((133,pt b 0) :: DD b w H wl) w3.heap.size (BM w Bk v X) A3.ph.lies fun w4 E4 hL4 hK4=>?_
  have A4:=A3.run hK4 hL4 CI
  refine Cw 35 [.tmp 133,.const (D 4)] (some 134) [pt b 0,D 4] (A4.next (by omega) (by omega) fun k w5 hk A5=>⟨_,rfl,?_⟩)
  refine Am 90 (AE pZ) w5.heap.size _ [] aM (GR b w H wl k) w5.heap.size (BM w Bk v X) A5.ph.lies fun w6 E6 hL6 hK6=>?_
  exact il (by omega) (A5.run hK6 hL6 CI) h1 (by omega)
def Ko (b:Nat) (w:World) (H:Nat) (wl:Bool) (gN gT:Nat) (i:Int):List (Nat×Value):=DD b w H wl++[(8,Gz gN),(9,Gz gT),(10,D i)]
set_option maxRecDepth 100000 in
set_option maxHeartbeats 1000000 in
theorem Ob {gN gT i:Nat} {rules:Int} {R:Ending→World→Prop} (IH:Bv b ns H) (hH:H≤100) (hi:i=0∨i=1∨i=2∨i=3) (hr0:0≤rules) (hr1:rules≤10) (hA:Ag b ns (max 1 H) w Bk v v (XN gN gT) rs wx) (h1:1≤rs.length) (h2:rs.length≤20)
  (hk:∀ E' u v' rs',Ag b ns (max 1 H) w Bk v' v' (XN gN gT) rs' u→1≤rs'.length→rs'.length≤rs.length + 2→At Tryz.prog 12 R (Aj TY) (Fr 168 (Aw E' (Ko b w H wl gN gT ((i + 1:Nat):Int)))) u) :
  At Tryz.prog 12 R TS (Fr 168 (Aw E (GT b w H wl gN gT i rules 0))) wx:=by
 refine Bi (by kernel_rfl) (fun E wx=>∃ (E':Nat→Value) (k:Nat) (v:Value) (rs':List (List Value)),E=Aw E' (GT b w H wl gN gT i rules k)∧k≤2∧Ag b ns (max 1 H) w Bk v v (XN gN gT) rs' wx∧1≤rs'.length∧rs'.length≤rs.length + k) (fun E _=>(2 - iv (E 12)).toNat) ⟨E,0,v,rs,rfl,by omega,hA,h1,by omega⟩ ?_
 clear hA h1
 rintro E wx ⟨E',k,v,rs',rfl,hk2,hA,h1,h3⟩ again
 let z0:=BM w Bk v (XN gN gT)
 refine Am 90 (Ay TS) wx.heap.size _ [] qB ((69,D k) :: (70,pt b 0) :: GT b w H wl gN gT i rules k) wx.heap.size z0 hA.ph.lies fun w1 E1 hL1 hK1=>?_
 have A1:=hA.run hK1 hL1 CI
 refine Cw 35 [.tmp 70,.const (D 3)] (some 71) [pt b 0,D 3] (A1.next (by omega) (by omega) fun q w2 hq A2=>⟨_,rfl,?_⟩)
 refine Am 90 (AE qB) w2.heap.size _ [] kj ((73,.bool (decide ((k:Int)≤IntKind.i64.wrap (Int.tdiv q 2)))) :: GT b w H wl gN gT i rules k) w2.heap.size z0 A2.ph.lies fun w3 E3 hL3 hK3=>?_
 have A3:=A2.run hK3 hL3 CI
 refine Cf (decide ((k:Int)≤IntKind.i64.wrap (Int.tdiv q 2))) (fun ht=>?_) (fun hf=>?_)
 ·have hk1:k≤1:=by
   have h4:(k:Int)≤IntKind.i64.wrap (Int.tdiv q 2):=by simpa using ht
   have hq3:q=0∨q=1∨q=2:=by omega
   have h5:IntKind.i64.wrap (Int.tdiv q 2)≤1:=by rcases hq3 with rfl | rfl | rfl <;> decide
   omega
  refine Am 90 (AG kj) w3.heap.size _ [] uN (GT b w H wl gN gT i rules k) w3.heap.size z0 A3.ph.lies fun w4 E4 hL4 hK4=>?_
  have A4:=A3.run hK4 hL4 CI
  refine bV IH hH hi hr0 hr1 (by omega) (by omega) A4 (by omega) (by kernel_rfl) fun v' p u E5 A5 hp=>?_
  refine Am 90 (AP uN) u.heap.size _ [] (Aj TS) (GT b w H wl gN gT i rules (IntKind.i64.wrap ((k:Int) + 1))) u.heap.size (BM w Bk v' (XN gN gT)) A5.ph.lies fun w6 E6 hL6 hK6=>?_
  have A6:=A5.run hK6 hL6 CI
  rw [show IntKind.i64.wrap ((k:Int) + 1)=((k + 1:Nat):Int) by rw [IntWalk.i64_in _ (by omega)]; omega]
  refine again _ _ ⟨E6,k + 1,v',rs'++p,rfl,by omega,A6,by simp; omega,by simp; omega⟩ ?_
  show (2 - ((k + 1:Nat):Int)).toNat < (2 - (k:Int)).toNat
  omega
 ·refine Am 90 (AL kj) w3.heap.size _ [] (Aj TY) (Ko b w H wl gN gT (IntKind.i64.wrap ((i:Int) + 1))) w3.heap.size z0 A3.ph.lies fun w4 E4 hL4 hK4=>?_
  have A4:=A3.run hK4 hL4 CI
  rw [show IntKind.i64.wrap ((i:Int) + 1)=((i + 1:Nat):Int) by rw [IntWalk.i64_in _ (by omega)]; omega]
  exact hk E4 w4 v rs' A4 h1 (by omega)
set_option maxRecDepth 100000 in
set_option maxHeartbeats 1000000 in
theorem io {gN gT:Nat} (IH:Bv b ns H) (hH:H≤100) (hA:Ag b ns (max 1 H) w Bk v v (XN gN gT) rs wx) (h1:1≤rs.length) (h2:rs.length≤8) :
  At Tryz.prog 12 (IB b ns H w) TY (Fr 168 (Aw E (Ko b w H wl gN gT 0))) wx:=by
 refine Bi (by kernel_rfl) (fun E wx=>∃ (E':Nat→Value) (i:Nat) (v:Value) (rs:List (List Value)),E=Aw E' (Ko b w H wl gN gT i)∧i≤4∧Ag b ns (max 1 H) w Bk v v (XN gN gT) rs wx∧1≤rs.length∧rs.length≤8 + 2 * i) (fun E _=>(4 - iv (E 10)).toNat) ⟨E,0,v,rs,rfl,by omega,hA,h1,by omega⟩ ?_
 clear hA h1 h2
 rintro E wx ⟨E',i,v,rs,rfl,hi,hA,h1,h2⟩ again
 let z0:=BM w Bk v (XN gN gT)
 refine Am 90 (Ay TY) wx.heap.size _ [] Vi ((58,.bool (decide ((i:Int) < 4))) :: Ko b w H wl gN gT i) wx.heap.size z0 hA.ph.lies fun w1 E1 hL1 hK1=>?_
 have A1:=hA.run hK1 hL1 CI
 refine Cf (decide ((i:Int) < 4)) (fun ht=>?_) (fun hf=>?_)
 ·have hi4:i < 4:=by have:(i:Int) < 4:=(by simpa using ht); omega
  have hb1:0≤IntKind.i64.wrap ((i:Int) + 1)∧IntKind.i64.wrap ((i:Int) + 1)≤10:=by rw [IntWalk.i64_in _ (by omega)]; omega
  have K:∀ E' u v' rs',Ag b ns (max 1 H) w Bk v' v' (XN gN gT) rs' u→1≤rs'.length→rs'.length≤rs.length + 2→At Tryz.prog 12 (IB b ns H w) (Aj TY) (Fr 168 (Aw E' (Ko b w H wl gN gT ((i + 1:Nat):Int)))) u:=by
   intro E' u v' rs' A6 k1 k2
   refine again _ _ ⟨E',i + 1,v',rs',rfl,by omega,A6,k1,by omega⟩ ?_
   show (4 - ((i + 1:Nat):Int)).toNat < (4 - (i:Int)).toNat
   omega
  cases wl
  ·refine Am 180 (AG Vi) w1.heap.size _ [] Vh ((68,.bool false) :: (11,D (IntKind.i64.wrap ((i:Int) + 1))) :: Ko b w H false gN gT i) w1.heap.size z0 A1.ph.lies fun w2 E2 hL2 hK2=>?_
   have A4:=A1.run hK2 hL2 CI
   refine Cf false (fun h=>nomatch h) (fun _=>?_)
   refine Am 90 (AL Vh) w2.heap.size _ [] TS (GT b w H false gN gT i (IntKind.i64.wrap ((i:Int) + 1)) 0) w2.heap.size z0 A4.ph.lies fun w5 E5 hL5 hK5=>?_
   exact Ob IH hH (by omega) hb1.1 hb1.2 (A4.run hK5 hL5 CI) h1 (by omega) K
  ·let z1:=IntKind.i64.wrap ((i:Int) + 1)
   refine Am 90 (AG Vi) w1.heap.size _ [] qq ((11,D z1) :: (64,.bool true) :: (65,pt b 0) :: Ko b w H true gN gT i) w1.heap.size z0 A1.ph.lies fun w2 E2 hL2 hK2=>?_
   have A2:=A1.run hK2 hL2 CI
   refine Cw 35 [.tmp 65,.const (D 4)] (some 66) [pt b 0,D 4] (A2.next (by omega) (by omega) fun q w3 hq A3=>⟨_,rfl,?_⟩)
   refine Am 90 (AE qq) w3.heap.size _ [] Vh ((68,.bool (decide ((q:Int)=3))) :: (11,D z1) :: Ko b w H true gN gT i) w3.heap.size z0 A3.ph.lies fun w4 E4 hL4 hK4=>?_
   have A4:=A3.run hK4 hL4 CI
   refine Cf (decide ((q:Int)=3)) (fun _=>?_) (fun _=>?_)
   ·refine Am 90 (AG Vh) w4.heap.size _ [] TS (GT b w H true gN gT i 5 0) w4.heap.size z0 A4.ph.lies fun w5 E5 hL5 hK5=>?_
    exact Ob IH hH (by omega) (by omega) (by omega) (A4.run hK5 hL5 CI) h1 (by omega) K
   ·refine Am 90 (AL Vh) w4.heap.size _ [] TS (GT b w H true gN gT i z1 0) w4.heap.size z0 A4.ph.lies fun w5 E5 hL5 hK5=>?_
    exact Ob IH hH (by omega) hb1.1 hb1.2 (A4.run hK5 hL5 CI) h1 (by omega) K
 ·have hi4:4≤i:=by have:¬ (i:Int) < 4:=(by simpa using hf); omega
  refine Am 90 (AL Vi) w1.heap.size _ [] aO (GC b w H wl 0) w1.heap.size z0 A1.ph.lies fun w2 E2 hL2 hK2=>?_
  exact im IH hH (A1.run hK2 hL2 CI) h1 (by omega)
end
end
end Go.Proofs.YtmcpjkcggfmcmaaGreatDoor
namespace Go.Proofs.YtmcpjkcggfmcmaaGreatDoor
open Go.RowKit
def OR:List Value:=[D 0,D 0,D 0,D 0,D 0,D 0,.string ⟨#[]⟩,D 0,D 0,.slice none 0 0]
def KK (kind:Int) (name:List UInt8) (t:Bool×Int×Int×Int):Df:=⟨kind,name,t.1,t.2.1,t.2.2.1,t.2.2.2,0,[],LO,0,0,0⟩
def H9 (d:Df):List Value:=d.head none 0++OR++d.tail
def d5:List Df:=[KK 1 [104] Dj,KK 1 [103] BU,KK 1 [102] Ds,KK 5 [103,114,111,115,115] Cc,KK 5 [116,105,109,101] Dj]
def Y2:List (List Value):=d5.map H9
theorem uH {H:Nat}:∀ d∈d5,F4 H d:=by
 intro d hd
 simp only [d5,List.mem_cons,List.not_mem_nil,or_false] at hd
 rcases hd with rfl | rfl | rfl | rfl | rfl <;> simp [F4,KK,Dj,BU,Ds,Cc]
theorem cI {O:List Nat} {B:Nat} {w:World} {z:Nat} {mem:List BI} {x:Nat×Nat} {q:List (Nat×Nat)} (h:DH O B w ⟨z,mem,x,q⟩) (k:Nat):DH O B w ⟨z,mem.take k,x,q⟩:=by
 have key:∀ (i:Nat) (e:BI),(mem.take k)[i]?=some e→mem[i]?=some e:=fun i e he=>by
  rw [List.getElem?_take] at he
  split at he
  ·exact he
  ·cases he
 exact ⟨⟨h.sat.size,fun e he=>h.sat.good e (List.mem_of_mem_take he),fun i j e e' hi b ho a=>h.sat.apart i j e e' (key i e hi) (key j e' b) ho a⟩,h.le,fun e he ho=>h.own e (List.mem_of_mem_take he) ho⟩
section
variable {b:Nat} {ns:List Int} {H:Nat} {w:World} {v:Value} {X:List BI} {rs:List (List Value)} {wx:World} {E:Nat→Value} {wl:Bool}
theorem Ph.ty {mem:List BI} {t:Bool×Int×Int×Int} {f:FuncId} (h:Ph b ns w mem wx) (hc:Calls Tryz.prog f #[] wx fun e w'=>e=.returned (DA t)∧Below wx.heap.size wx w') {K:Ending→World→Prop} (c:∀ u,Ph b ns w mem u→wx.heap.size≤u.heap.size→K (.returned (Cl t)) u):Calls Tryz.prog f ([]:List Value).toArray wx K:=
 hc.mono fun e u ⟨he,a⟩=>by subst he; exact c u (h.below a) a.size
theorem Ag.ty {r:List Value} {c:Value} {t:Bool×Int×Int×Int} {f:FuncId} (h:Ag b ns H w r c v X rs wx) (hc:Calls Tryz.prog f #[] wx fun e w'=>e=.returned (DA t)∧Below wx.heap.size wx w') {K:Ending→World→Prop} (a:∀ u,Ag b ns H w r c v X rs u→K (.returned (Cl t)) u):Calls Tryz.prog f ([]:List Value).toArray wx K:=
 hc.mono fun e u ⟨he,d⟩=>by subst he; exact a u (h.below d)
set_option maxRecDepth 100000 in
set_option maxHeartbeats 1000000 in
theorem d7 (IH:Bv b ns H) (hH:H≤100) (hA:Ag b ns (max 1 H) w Bk v v [] rs wx) (h1:1≤rs.length) (h2:rs.length≤8) :
  At Tryz.prog 12 (IB b ns H w) (AP bH) (Fr 168 (Aw E (DD b w H wl))) wx:=by
 let z0:=BM w Bk v [⟨wx.heap.size,0,[EE 0,EE 1,EE 2,EE 3],9,true⟩]
 refine Am 90 (AP bH) wx.heap.size _ [] qx ((51,Gz wx.heap.size) :: DD b w H wl) (wx.heap.size + 1) z0 hA.ph.lies fun w1 E1 hL1 hK1=>?_
 have A1:=hA.run hK1 hL1 (fun e he=>.inr (by simp only [List.mem_cons,List.not_mem_nil,or_false] at he; subst he; exact Nat.le_refl _))
 refine Cw 33 [] (some 52) [] (A1.ty (Fx _) fun w2 A2=>⟨_,rfl,?_⟩)
 refine Am 90 (AE qx) w2.heap.size _ [] qw ((51,Gz wx.heap.size) :: (52,Cl Cd) :: DD b w H wl) w2.heap.size z0 A2.ph.lies fun w3 E3 hL3 hK3=>?_
 have A3:=A2.run hK3 hL3 CI
 refine Cw 31 [] (some 53) [] (A3.ty (EO _) fun w4 A4=>⟨_,rfl,?_⟩)
 refine Am 90 (AE qw) w4.heap.size _ [] qv ((51,Gz wx.heap.size) :: (52,Cl Cd) :: (53,Cl Cc) :: DD b w H wl) w4.heap.size z0 A4.ph.lies fun w5 E5 hL5 hK5=>?_
 have A5:=A4.run hK5 hL5 CI
 refine Cw 30 [] (some 54) [] (A5.ty (Gb _) fun w6 A6=>⟨_,rfl,?_⟩)
 refine Am 90 (AE qv) w6.heap.size _ [] qu ((51,Gz wx.heap.size) :: (52,Cl Cd) :: (53,Cl Cc) :: (54,Cl Ds) :: DD b w H wl) w6.heap.size z0 A6.ph.lies fun w7 E7 hL7 hK7=>?_
 have A7:=A6.run hK7 hL7 CI
 refine Cw 34 [] (some 55) [] (A7.ty (F5 _) fun w8 A8=>⟨_,rfl,?_⟩)
 refine Am 90 (AE qu) w8.heap.size _ [] TY (Ko b w H wl wx.heap.size w8.heap.size 0) (w8.heap.size + 1) (BM w Bk v (XN wx.heap.size w8.heap.size)) A8.ph.lies fun w9 E9 hL9 hK9=>?_
 have A9:=A8.run hK9 hL9 (fun e he=>by
  simp only [XN,List.mem_cons,List.not_mem_nil,or_false] at he
  rcases he with rfl | rfl
  ·exact .inl ⟨_,by simp,rfl⟩
  ·exact .inr (Nat.le_refl _))
 exact io IH hH A9 h1 h2
set_option maxRecDepth 100000 in
set_option maxHeartbeats 1000000 in
theorem ip (IH:Bv b ns H) (hH:H≤100) (hA:Ag b ns (max 1 H) w Bk v v [] rs wx) (h1:rs.length=5) :
  At Tryz.prog 12 (IB b ns H w) ll (Fr 168 (Aw E (DD b w H wl))) wx:=by
 refine gX hA (by omega) (by kernel_rfl) fun v1 q1 u E1 A1 hq1=>?_
 refine Am 90 (AP ll) u.heap.size _ [] rC ((40,pt b 0) :: DD b w H wl) u.heap.size (BM w Bk v1 []) A1.ph.lies fun w2 E2 hL2 hK2=>?_
 have A2:=A1.run hK2 hL2 CI
 refine Cw 35 [.tmp 40,.const (D 3)] (some 41) [pt b 0,D 3] (A2.next (by omega) (by omega) fun q w3 hq A3=>⟨_,rfl,?_⟩)
 refine Am 90 (AE rC) w3.heap.size _ [] lk ((42,.bool (decide ((q:Int)=0))) :: DD b w H wl) w3.heap.size (BM w Bk v1 []) A3.ph.lies fun w4 E4 hL4 hK4=>?_
 have A4:=A3.run hK4 hL4 CI
 refine Cf (decide ((q:Int)=0)) (fun _=>?_) (fun _=>?_)
 ·refine Am 90 (AG lk) w4.heap.size _ [] bH (DD b w H wl) w4.heap.size (BM w Bk v1 []) A4.ph.lies fun w5 E5 hL5 hK5=>?_
  refine gW (A4.run hK5 hL5 CI) (by simp; omega) (by kernel_rfl) fun v2 q2 u2 E6 A6 hq2=>?_
  exact d7 IH hH A6 (by simp; omega) (by simp; omega)
 ·refine Am 1 (AL lk) w4.heap.size _ [] (AP bH) (DD b w H wl) w4.heap.size (BM w Bk v1 []) A4.ph.lies fun w5 E5 hL5 hK5=>?_
  exact d7 IH hH (A4.run hK5 hL5 CI) (by simp; omega) (by simp; omega)
set_option maxRecDepth 100000 in
set_option maxHeartbeats 1000000 in
theorem iY (S:Nat→Prop) (w:World):D2 S w LO OR:=by
 unfold LO D2
 exact ⟨none,0,[],rfl,by unfold Ev; rfl,.inl rfl⟩
theorem Rv (H:Nat) (h1:1≤H) (hH:H≤100) (hT:Bl b ns w):Calls Tryz.prog 12 #[pt b 0,D H,.bool wl] w (IB b ns H w):=by
 have IH:Bv b ns H:=by
  obtain ⟨n,rfl⟩:∃ n,H=n + 1:=⟨H - 1,by omega⟩
  exact UW b ns n
 refine GD (args:=[pt b 0,D H,.bool wl]) (fn:=Tryz.f12) (c:=Uu) (n:=168) ?_
 refine Am 90 [.code Uu] w.heap.size [] [(1,0)] rG (DD b w H wl) (w.heap.size + 2) (BM w Bk (.slice none 0 0) []) (Br w) fun w1 E1 k q=>?_
 have P1:=(Ph.start hT).run q k (QY (fun e he=>(by cases he)))
 refine Cw 29 [] (some 18) [] (P1.ty (Gf _) fun v z d0=>⟨_,rfl,?_⟩)
 refine Am 90 (AE rG) v.heap.size _ [] rF ((19,.agg (H9 (KK 1 [104] Dj)).toArray) :: (20,.agg (H9 (KK 1 [103] BU)).toArray) :: DD b w H wl) v.heap.size (BM w Bk (.slice none 0 0) []) z.lies fun w3 E3 j p=>?_
 have P3:=z.run p j (QY (fun e he=>(by cases he)))
 refine Cw 30 [] (some 21) [] (P3.ty (Gb _) fun u y c0=>⟨_,rfl,?_⟩)
 refine Am 90 (AE rF) u.heap.size _ [] rE ((19,.agg (H9 (KK 1 [104] Dj)).toArray) :: (20,.agg (H9 (KK 1 [103] BU)).toArray) :: (22,.agg (H9 (KK 1 [102] Ds)).toArray) :: DD b w H wl) u.heap.size (BM w Bk (.slice none 0 0) []) y.lies fun w5 E5 i o=>?_
 have P5:=y.run o i (QY (fun e he=>(by cases he)))
 refine Cw 31 [] (some 23) [] (P5.ty (EO _) fun t x b0=>⟨_,rfl,?_⟩)
 refine Am 90 (AE rE) t.heap.size _ [] rD ((19,.agg (H9 (KK 1 [104] Dj)).toArray) :: (20,.agg (H9 (KK 1 [103] BU)).toArray) :: (22,.agg (H9 (KK 1 [102] Ds)).toArray) :: (24,.agg (H9 (KK 5 [103,114,111,115,115] Cc)).toArray) :: DD b w H wl) t.heap.size (BM w Bk (.slice none 0 0) []) x.lies fun w7 E7 h m=>?_
 have P7:=x.run m h (QY (fun e he=>(by cases he)))
 refine Cw 29 [] (some 25) [] (P7.ty (Gf _) fun a s a0=>⟨_,rfl,?_⟩)
 refine Am 90 (AE rD) a.heap.size _ [(1,1)] ll (DD b w H wl) (a.heap.size + 1) (BM w Bk (.slice (some ⟨a.heap.size,0,none⟩) 5 5) [⟨a.heap.size,0,Y2.flatten,34,true⟩]) s.lies fun w9 E9 f l=>?_
 have g:w.heap.size + 2≤a.heap.size:=by
  have:=(s.lies.sat.good ⟨w.heap.size + 1,0,[Hl,.slice none 0 0],38,true⟩ (by simp [BM])).1
  simp only at this
  omega
 have P9:=s.run (mem':=BM w Bk (.slice (some ⟨a.heap.size,0,none⟩) 5 5) []) l (cI f 2) (QY (fun e he=>(by cases he)))
 have hg:=f.sat.good ⟨a.heap.size,0,Y2.flatten,34,true⟩ (by simp [BM])
 have hb:=hg.2
 rw [if_pos rfl] at hb
 refine ip IH hH (rs:=Y2) ⟨P9,⟨by rfl,.inr ⟨a.heap.size,5,_,rfl,g,hb.1,by decide,by unfold maxLen; decide,by rfl,by rfl⟩⟩,fun r hr=>?_,fun e he=>(by cases he),fun e he=>(by cases he)⟩ rfl
 obtain ⟨d,hd,rfl⟩:=List.mem_map.1 hr
 refine ⟨d,uH d hd,?_⟩
 simp only [d5,List.mem_cons,List.not_mem_nil,or_false] at hd
 rcases hd with rfl | rfl | rfl | rfl | rfl <;> exact ⟨none,0,OR,iY _ _,.inl rfl,rfl⟩
end
end Go.Proofs.YtmcpjkcggfmcmaaGreatDoor
namespace Go.Proofs.YtmcpjkcggfmcmaaGreatDoor
open Go.RowKit
set_option maxRecDepth 100000
theorem U5 (op:Int):QF op≤3:=by
 unfold QF
 split
 ·decide
 ·split
  ·decide
  ·split <;> decide
mutual
theorem Vs:∀ {x:Ex},Q6 x→Dq x
 | .mk op num den mu hu du name count mode kids,h=>by
  unfold Q6 at h
  unfold Dq
  have a:=h.1
  unfold Hk at a
  have ha:=U5 op
  exact ⟨by omega,by omega,UB h.2⟩
theorem UB:∀ {es:List Ex},okEs es→Ik es
 | [],_=>by unfold Ik; trivial
 | e :: es,h=>by
  unfold okEs at h
  unfold Ik
  exact ⟨Vs h.1,UB h.2⟩
end
mutual
theorem ls:∀ {x:Ex},Q6 x→nE x≤4 ^ x.height
 | .mk op num den mu hu du name count mode kids,h=>by
  unfold Q6 at h
  rw [nE,Ex.height]
  have a:=h.1
  unfold Hk at a
  have ha:kids.length≤3:=by
   have:=U5 op
   omega
  have h2:=cF h.2
  have c:kids.length * 4 ^ Ex.heights kids≤3 * 4 ^ Ex.heights kids:=Nat.mul_le_mul_right _ ha
  have b:0 < 4 ^ Ex.heights kids:=Nat.pow_pos (by decide)
  rw [Nat.pow_add]
  omega
theorem cF:∀ {es:List Ex},okEs es→Gw es≤es.length * 4 ^ Ex.heights es
 | [],_=>Nat.zero_le _
 | e :: es,h=>by
  unfold okEs at h
  rw [Gw,Ex.heights,List.length_cons,Nat.succ_mul]
  have c:=ls h.1
  have h2:=cF h.2
  have b:4 ^ e.height≤4 ^ max e.height (Ex.heights es):=Nat.pow_le_pow_right (by decide) (Nat.le_max_left _ _)
  have a:es.length * 4 ^ Ex.heights es≤es.length * 4 ^ max e.height (Ex.heights es):=Nat.mul_le_mul_left _ (Nat.pow_le_pow_right (by decide) (Nat.le_max_right _ _))
  omega
end
theorem cC {H:Nat} {d:Df} (h:F4 H d) (a:H≤9):IJ d∧Dq d.body∧nE d.body≤1000000∧d.ents.length≤4294967296:=by
 unfold F4 at h
 have hb:Dq d.body∧nE d.body≤1000000:=by
  rcases h.2.2.2.2.2.2.2.2.2.2.2.2.2.1 with hb | hb
  ·rw [hb]
   exact ⟨⟨Nat.zero_le _,Nat.zero_le _,trivial⟩,by decide⟩
  ·refine ⟨Vs hb.1,Nat.le_trans (ls hb.1) (Nat.le_trans (Nat.pow_le_pow_right (by decide) (Nat.le_trans hb.2 a)) (by decide))⟩
 exact ⟨⟨hb.1,by omega⟩,hb.1,hb.2,by omega⟩
theorem Qz {b:Df→Prop} {S:Nat→Prop} {w:World}:∀ {rs:List (List Value)},Fn b S w rs→∃ ds,FQ CY w ds rs∧ds.length=rs.length∧∀ d∈ds,b d
 | [],_=>⟨[],rfl,rfl,fun _ h=>(by cases h)⟩
 | r :: rs,h=>by
  obtain ⟨d,j,h2⟩:=h r (by simp)
  obtain ⟨ds,i,f,e⟩:=Qz (rs:=rs) (fun q c=>h q (by simp [c]))
  refine ⟨d :: ds,⟨r,rs,rfl,h2.keep (Nat.le_refl _) (fun g _ _=>⟨trivial,rfl⟩),i⟩,by simp [f],fun x a=>?_⟩
  rcases List.mem_cons.1 a with rfl | a
  ·exact j
  ·exact e x a
theorem IB.rows {b:Nat} {ns:List Int} {H:Nat} {w w':World} {e:Ending} (h:IB b ns H w e w'):∃ A c ds,e=.returned (.agg #[Hl,.slice A ds.length c])∧rowsDf w' A ds∧ds.length≤c∧ds.length≤30∧(∀ d∈ds,F4 (max 1 H) d)∧Bl b ns w'∧Ae b w w':=by
 obtain ⟨v,rs,rfl,ho,hr,p,m,n⟩:=h
 obtain ⟨ds,s,h2,q⟩:=Qz hr
 have f:∃ A c,v=.slice A rs.length c∧rs.length≤c:=by
  rcases ho.2 with ⟨a,o⟩ | ⟨g,cap,i,a,hb,hg,hc,_⟩
  ·exact ⟨none,0,by rw [o]; exact a,by omega⟩
  ·exact ⟨_,_,a,hc⟩
 obtain ⟨A,c,rfl,hc⟩:=f
 have k:w'.ownsRow 0 34 21 (.slice A rs.length c) rs.length rs.flatten:=by
  refine ⟨ho.1,?_⟩
  rcases ho.2 with a | ⟨g,cap,i,a,hb,l⟩
  ·exact .inl a
  ·exact .inr ⟨g,cap,i,a,Nat.zero_le _,l⟩
 exact ⟨A,c,ds,by rw [h2],⟨rs,s,Mh rfl (fun r j=>hr.len r j) k⟩,by omega,by omega,q,m,n⟩
end Go.Proofs.YtmcpjkcggfmcmaaGreatDoor

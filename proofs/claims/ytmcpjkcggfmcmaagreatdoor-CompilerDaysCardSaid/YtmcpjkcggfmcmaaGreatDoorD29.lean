/-
  Part 29 of a proof: contracts of functions.
-/
import Derived.Test.YtmcpjkcggfmcmaaGreatDoorD28
set_option linter.all false
namespace Go.Proofs.YtmcpjkcggfmcmaaGreatDoor
open Go.RowKit
set_option maxRecDepth 100000
set_option maxHeartbeats 600000
theorem Kn {n q:Nat} {v:Value} (b:q < n):∀ {rs:List (List Value)} {j:Nat} {r:List Value},(∀ r∈rs,r.length=n)→rs[j]?=some r→(rs.set j (r.set q v)).flatten=rs.flatten.set (j * n + q) v
 | [],j,r,_,h=>by simp at h
 | r0 :: rs,0,r,hn,h=>by
  simp at h
  subst h
  have:=hn r0 (by simp)
  rw [List.set_cons_zero,List.flatten_cons,List.flatten_cons,Nat.zero_mul,Nat.zero_add,List.set_append,if_pos (by omega)]
 | r0 :: rs,j + 1,r,hn,h=>by
  have a:=hn r0 (by simp)
  have:=Kn b (fun r hr=>hn r (by simp [hr])) (show rs[j]?=some r by simpa using h) (v:=v)
  rw [List.set_cons_succ,List.flatten_cons,List.flatten_cons,this,List.set_append,if_neg (by rw [a,Nat.succ_mul]; omega),a,show (j + 1) * n + q - n=j * n + q by rw [Nat.succ_mul]; omega]
def Uc (n:Nat) (E:Nat→Value) (todo:List Item):Option (TypeId×Value×Value×Option Tmp):=match FY n E todo with
 | some o=>match o.op with
  | .store t x y=>some (t,BN n E x,BN n E y,o.dst)
  | _=>none
 | none=>none
section
variable {P:Program} {fi:FuncId} {R:Ending→World→Prop}
theorem F9 {α:Type} {T:TypeId} {n:Nat} {f:α→List Value→Prop} {b g c:Nat} {l:List α} {L:List Th} {w:World} {k:Nat} {td:List Item} {E:Nat→Value} (H:AU b w L) (i:Nat) (hi:L[i]?=some (Th.row T n f (some ⟨g,0,none⟩) c l))
  (j:Nat) (e e':α) (he:l[j]?=some e) (q:Nat) (hq:q < n) (v:Value) (f0:∀ r,f e r→f e' (r.set q v)) (hn:∀ e r,f e r→r.length=n) (t:TypeId) (dst:Option Tmp)
  (hc:Uc k E td=some (t,.pointer (some ⟨g,0 + j * n + q,none⟩),v,dst)) (k0:PG P t=some 1) (hv:v.cells.toList=[v]) (h1:v.oneCell'=true)
  (hk:∀ w',AU b w' (L.set i (Th.row T n f (some ⟨g,0,none⟩) c (l.set j e')))→Below b w w'→w'.heap.size=w.heap.size→At P fi R (AE td) (Fr k (Bc E dst undef)) w'):At P fi R td (Fr k E) w:=by
 obtain ⟨rs,z,hP⟩:(Th.row T n f (some ⟨g,0,none⟩) c l).P w:=H.all i _ hi
 rcases hP.2 with ⟨h0,_⟩ | ⟨g',cap,d,hA,_,hg,i0,w0,d0,ht⟩
 ·cases h0
 obtain ⟨rfl,rfl⟩:g=g'∧c=cap:=by
  injection hA with e1 e2 e3
  injection e1 with e1
  injection e1 with e1
  exact ⟨e1,e3⟩
 have o:=KU hn z
 have x0:rs.length=l.length:=I4 z
 obtain ⟨r,hr,p0⟩:=QU z he
 have t0:j < l.length:=(List.getElem?_eq_some_iff.1 he).1
 have y0:j * n + q < l.length * n:=by
  have:(j + 1) * n≤l.length * n:=Nat.mul_le_mul_right n t0
  rw [Nat.succ_mul] at this
  omega
 have z0:l.length * n≤c * n:=Nat.mul_le_mul_right n i0
 have a0:(0 + j * n + q) + 0 + [v].length≤d.size:=by rw [d0]; simp; omega
 have s:=run_storeCells_at P g (0 + j * n + q) T [v] 0 d w hg a0 (fun u hu=>by rw [List.mem_singleton.1 hu]; exact h1)
 have b0:(d.toList.take ((0 + j * n + q) + 0)++[v]++d.toList.drop ((0 + j * n + q) + 0 + [v].length))=d.toList.set (j * n + q) v:=by
  rw [List.set_eq_take_append_cons_drop,if_pos (by rw [Array.length_toList,d0]; omega)]
  simp
 rw [b0] at s
 have c0:∀ m,m < w.heap.size→m≠g→(w.setRow g (d.toList.set (j * n + q) v).toArray).heap[m]?=w.heap[m]?:=fun m _ q0=>setRow_other w g m _ q0
 have a:(w.setRow g (d.toList.set (j * n + q) v).toArray).heap.size=w.heap.size:=by unfold World.setRow; simp
 have r0:=H.lo i _ hi g rfl
 have H':AU b (w.setRow g (d.toList.set (j * n + q) v).toArray) (L.set i (Th.row T n f (some ⟨g,0,none⟩) c (l.set j e'))):=by
  refine H.set i hi (by rw [a]; exact Nat.le_refl _) (show (Th.row T n f (some ⟨g,0,none⟩) c (l.set j e')).P _ from ⟨rs.set j (r.set q v),Tu (f0 r p0) j z,?_,.inr ⟨g,c,_,by rw [List.length_set],Nat.zero_le _,setRow_heap w g d _ T _ hg,by rw [List.length_set]; exact i0,w0,by simp [d0],?_⟩⟩) (fun m h=>⟨?_,.inl h⟩) (fun m h hf=>c0 m h fun e=>hf (by rw [e]; rfl))
  ·have v0:=hP.1
   rw [Kn hq o hr,List.length_set,List.length_set]
   exact v0
  ·rw [List.length_set,Kn hq o hr,← ht,List.toList_toArray,List.take_set]
  ·obtain rfl:g=m:=by have:=Option.some.inj h; injection this
   rw [a]
   exact r0.2
 have hB:Below b w (w.setRow g (d.toList.set (j * n + q) v).toArray):=⟨rfl,rfl,rfl,by rw [a]; exact Nat.le_refl _,fun m h=>c0 m (Nat.lt_of_lt_of_le h H.base) (fun e=>by omega)⟩
 have p:=hk _ H' hB a
 unfold Uc at hc
 split at hc
 ·rename_i op hcur'
  split at hc
  ·rename_i t' x y ho
   simp only [Option.some.injEq,Prod.mk.injEq] at hc
   obtain ⟨rfl,hx,hy,rfl⟩:=hc
   refine RL op hcur' ?_ p
   have e0:v.cells.size=1:=by rw [← Array.length_toList,hv]; rfl
   clear H' hB hk p c0 a b0 a0
   generalize 0 + j * n + q=o9 at s hx
   generalize w.setRow g (d.toList.set (j * n + q) v).toArray=w9 at s ⊢
   unfold execOp
   simp only [ho,hx,hy]
   simp [Instr.storeAt,Instr.sureAddr,storeVar,N6 k0,hv,e0,s]
  ·cases hc
 ·cases hc
end
section
variable {P:Program} {ops:Array Oper} {Q:Exit→Act→World→Prop} {md:Region.Mode} {n:Nat} {E:Nat→Value}
theorem Gh {a:Array Bool} {fuel i:Nat} {w:World} (o:Oper) (g:FuncId) (xs:List Operand) (args:List Value) {ats:Array TypeId} (h:Calls P g args.toArray w fun e w'=>∃ v,e=.returned v∧wpAny P md ops Q fuel (a.setIfInBounds i true) (Fr n (Bc E o.dst v)) w') (hr:Region.ready md ops a=[i]:=by kernel_rfl) (ho:ops[i]?=some o:=by kernel_rfl) (hgd:o.guard=none:=by kernel_rfl) (hop:o.op=.call ⟨.value (.func g),xs.toArray,ats⟩:=by kernel_rfl) (ha:xs.map (BN n E)=args:=by kernel_rfl) (hg:Dw P g=true:=by kernel_rfl):wpAny P md ops Q (fuel + 1) a (Fr n E) w:=by
 refine Gs hr ho hgd ?_
 unfold Oper.wp
 rw [Cm]
 have e:(execOp (BN n E) o).run P w=.ok (.enter g args.toArray) w:=by
  rw [← BW (h:=hg) args.toArray w,← ha]
  obtain ⟨d,op,ty,c,l,j⟩:=o
  simp only at hop
  subst hop
  unfold execOp resolve
  simp only [List.map_toArray]
  show ((Deferred.ofValue (.func (.func g) #[] #[]) (xs.map (BN n E)).toArray).bind fun d=>invoke d.target d.args).run P w=_
  unfold Deferred.ofValue
  simp [invoke,pure,Sem.bind]
 rw [e]
 refine h.mono fun k w' f=>?_
 obtain ⟨v,rfl,b⟩:=f
 show wpAny P md ops Q fuel _ ((Fr n E).put o.dst v) w'
 rw [Dy]
 exact b
end
abbrev AK:=Int×Int×Int×Int×Int×Int
abbrev Nt (x:AK):List Value:=[D x.1,D x.2.1,D x.2.2.1,D x.2.2.2.1,D x.2.2.2.2.1,D x.2.2.2.2.2]
abbrev Cj (A:Option Addr) (c:Nat) (l:List AK):Th:=Th.row 53 6 (fun e r=>r=Nt e) A c l
instance:Inhabited AK:=⟨(0,0,0,0,0,0)⟩
def Aq (l:List AK) (i:Nat) (v:Int):List AK:=l.set i ((l.getD i default).1,v,(l.getD i default).2.2)
theorem Dk (l:List AK) (i:Nat) (v:Int):(Aq l i v).length=l.length:=by unfold Aq; rw [List.length_set]
theorem AY.below {α β:Type} [DecidableEq α] {S:AY α β} {b:Nat} {m:List (α×β)} {w w':World} (h:S.at b m w) (B:Below w.heap.size w w'):S.at b m w':=S.at_fr h fun hl=>B.block b hl
theorem KJ {x:Ex} (h:Dq x):x.nm.length≤4294967296:=by
 cases x with
 | mk=>exact h.1
def IG:Op→Bool
 | .store _ _ _=>true
 | _=>false
end Go.Proofs.YtmcpjkcggfmcmaaGreatDoor
namespace Go.Proofs.YtmcpjkcggfmcmaaGreatDoor
noncomputable section
open Go.RowKit
set_option maxRecDepth 100000
set_option maxHeartbeats 1000000
attribute [local irreducible] BO CB AE AG AL Ay Aj AP Bc Cq Eb CT CO At Fr
def As (mi:List (List UInt8×Int)) (ms:List (List UInt8×Int)) (mp:List (List UInt8×Int)) (mr:List (List UInt8×Int)) (x:Ex):Int×Int×Int×Int×Int×Int:=cond (x.op == 1) ((1,0,x.num,x.den,0,0)) (cond (x.op == 2) (((AZ x.cnt).1,(AZ x.cnt).2.1,(AZ x.cnt).2.2.1,(AZ x.cnt).2.2.2.1,(AZ x.cnt).2.2.2.2.1,(AZ x.cnt).2.2.2.2.2)) (cond (x.op == 3) (cond ((CA mi x.nm).isSome) ((2,(CA mi x.nm).getD 0,0,0,0,0)) ((3,(CA mr x.nm).getD 0,0,0,0,0))) (cond (x.op == 4) ((4,(CA ms x.nm).getD 0,0,0,0,0)) (cond (x.op == 19) ((18,0,x.num,x.den,0,x.md)) (cond (x.op == 20) ((19,(CA mp x.nm).getD 0,0,0,x.cnt,0)) (cond (x.op == 21) ((20,(CA mp x.nm).getD 0,0,0,x.cnt,0)) ((qk1 x.op,0,0,0,0,0))))))))
noncomputable def V0:Code:=Tryz.f55.body.getD .skip
def Xs:=AB 60 ([.code V0])
def tE:=AB 60 (AG Xs)
def Xr:=AB 60 (AL Xs)
def kR:=AB 60 (AG Xr)
def tD:=AB 60 (AE kR)
def R5:=AB 60 (AL Xr)
def kQ:=AB (BA FJ 90 (AG R5)) (AG R5)
def R4:=AB 60 (AE kQ)
def tC:=AB 60 (AG R4)
def kP:=AB (BA FJ 90 (AL R4)) (AL R4)
def pW:=AB 60 (AE kP)
def Ot:=AB 60 (AL R5)
def aK:=AB (BA FJ 90 (AG Ot)) (AG Ot)
def pV:=AB 60 (AE aK)
def S5:=AB 60 (AL Ot)
def pU:=AB 60 (AG S5)
def Oq:=AB 60 (AL S5)
def aJ:=AB (BA FJ 90 (AG Oq)) (AG Oq)
def pT:=AB 60 (AE aJ)
def Oo:=AB 60 (AL Oq)
def aI:=AB (BA FJ 90 (AG Oo)) (AG Oo)
def pS:=AB 60 (AE aI)
def aH:=AB 60 (AL Oo)
def pR:=AB 60 (AE aH)
theorem Pe (p0aaA:Option Addr) (p0aan p0aac:Nat) (p0abA:Option Addr) (p0abn p0abc:Nat) (p0acA:Option Addr) (p0acn p0acc:Nat) (p0adA:Option Addr) (p0adn p0adc bi:Nat) (d:List (List UInt8×Int)) (bs:Nat) (ms:List (List UInt8×Int)) (bp:Nat) (a:List (List UInt8×Int)) (br:Nat) (f:List (List UInt8×Int)) (x:Ex) (r:Option Addr) (b0:Nat) (w:World) (v:AY.at BL bi d w) (s:AY.at BL bs ms w) (k:AY.at BL bp a w) (u:AY.at BL br f w) (d1:rowsEx w r x.ks) (g:Dq x):Calls Tryz.prog 55 ([.agg ⟨[.slice p0aaA p0aan p0aac,.slice p0abA p0abn p0abc,.slice p0acA p0acn p0acc,.slice p0adA p0adn p0adc,.map (some bi),.map (some bs),.map (some bp),.map (some br)]⟩,.agg ⟨[D x.op,D x.num,D x.den,D x.mu,D x.hu,D x.du,.string ⟨⟨x.nm⟩⟩,D x.cnt,D x.md,.slice r x.ks.length b0]⟩]:List Value).toArray w fun e w'=>e=.returned (.agg ⟨[D (((As d ms a f x)).1),D (((As d ms a f x)).2.1),D (((As d ms a f x)).2.2.1),D (((As d ms a f x)).2.2.2.1),D (((As d ms a f x)).2.2.2.2.1),D (((As d ms a f x)).2.2.2.2.2)]⟩)∧Below w.heap.size w w':=by
 refine Af (fn:=Tryz.f55) (c:=V0) (n:=77) ?_
 have K1:=Wk.start w
 refine BQ Xs K1 [(1,0)] fun w1 K2=>?_
 refine AM (x.op == 1) (fun o=>?_) (fun o=>?_)
 ·refine BQ tE K2 [(1,1),(2,0)] fun w3 K3=>?_
  have h:(As d ms a f x)=(1,0,x.num,x.den,0,0):=by unfold As; rw [o] <;> rfl
  exact Ab K3 (2,0) (.agg ⟨[D 1,D 0,D x.num,D x.den,D 0,D 0]⟩) ⟨by rw [h] <;> rfl,K3.B⟩
 ·refine AC Xr K2 [] fun w4 K4=>?_
  refine AM (x.op == 2) (fun p=>?_) (fun p=>?_)
  ·refine AC kR K4 [(1,7)] fun w6 K5=>?_
   refine Ap K5 (N9 x.cnt w6) fun w7 K6=>?_
   refine BQ tD K6 [(2,0)] fun w8 K7=>?_
   have h:(As d ms a f x)=((AZ x.cnt).1,(AZ x.cnt).2.1,(AZ x.cnt).2.2.1,(AZ x.cnt).2.2.2.1,(AZ x.cnt).2.2.2.2.1,(AZ x.cnt).2.2.2.2.2):=by unfold As; rw [o,p] <;> rfl
   exact Ab K7 (2,0) (bZ (AZ x.cnt)) ⟨by rw [h] <;> rfl,K7.B⟩
  ·refine AC R5 K4 [] fun w9 K8=>?_
   refine AM (x.op == 3) (fun i=>?_) (fun i=>?_)
   ·refine BG FJ kQ K8 [(0,4),(1,6)] fun a2 K9=>?_
    refine IA (Pq BL (t:=73) (x:=.tmp 23) (y:=.tmp 25) (by kernel_rfl) rfl (b:=bi) (m:=d) (by kernel_rfl) x.nm (by kernel_rfl) (KJ g) (AY.below v K9.B)) ?_
    refine AC R4 K9 [] fun z1 z0=>?_
    refine AM ((CA d x.nm).isSome) (fun a0=>?_) (fun a0=>?_)
    ·refine BQ tC z0 [(2,0)] fun y1 y0=>?_
     have h:(As d ms a f x)=(2,(CA d x.nm).getD 0,0,0,0,0):=by unfold As; rw [o,p,i,a0] <;> rfl
     exact Ab y0 (2,0) (.agg ⟨[D 2,D ((CA d x.nm).getD 0),D 0,D 0,D 0,D 0]⟩) ⟨by rw [h] <;> rfl,y0.B⟩
    ·refine BG FJ kP z0 [(0,7),(1,6)] fun x1 x0=>?_
     refine IA (HQ BL (t:=73) (x:=.tmp 33) (y:=.tmp 35) (by kernel_rfl) rfl (b:=br) (m:=f) (by kernel_rfl) x.nm (by kernel_rfl) (KJ g) (AY.below u x0.B)) ?_
     refine BQ pW x0 [(2,0)] fun v1 w0=>?_
     have h:(As d ms a f x)=(3,(CA f x.nm).getD 0,0,0,0,0):=by unfold As; rw [o,p,i,a0] <;> rfl
     exact Ab w0 (2,0) (.agg ⟨[D 3,D ((CA f x.nm).getD 0),D 0,D 0,D 0,D 0]⟩) ⟨by rw [h] <;> rfl,w0.B⟩
   ·refine AC Ot K8 [] fun t1 v0=>?_
    refine AM (x.op == 4) (fun j=>?_) (fun j=>?_)
    ·refine BG FJ aK v0 [(0,5),(1,6)] fun s1 t0=>?_
     refine IA (HQ BL (t:=73) (x:=.tmp 41) (y:=.tmp 43) (by kernel_rfl) rfl (b:=bs) (m:=ms) (by kernel_rfl) x.nm (by kernel_rfl) (KJ g) (AY.below s t0.B)) ?_
     refine BQ pV t0 [(2,0)] fun r1 r0=>?_
     have h:(As d ms a f x)=(4,(CA ms x.nm).getD 0,0,0,0,0):=by unfold As; rw [o,p,i,j] <;> rfl
     exact Ab r0 (2,0) (.agg ⟨[D 4,D ((CA ms x.nm).getD 0),D 0,D 0,D 0,D 0]⟩) ⟨by rw [h] <;> rfl,r0.B⟩
    ·refine AC S5 v0 [] fun q1 q0=>?_
     refine AM (x.op == 19) (fun l=>?_) (fun l=>?_)
     ·refine BQ pU q0 [(1,1),(1,8),(2,0)] fun p1 p0=>?_
      have h:(As d ms a f x)=(18,0,x.num,x.den,0,x.md):=by unfold As; rw [o,p,i,j,l] <;> rfl
      exact Ab p0 (2,0) (.agg ⟨[D 18,D 0,D x.num,D x.den,D 0,D x.md]⟩) ⟨by rw [h] <;> rfl,p0.B⟩
     ·refine AC Oq q0 [] fun n1 k0=>?_
      refine AM (x.op == 20) (fun q=>?_) (fun q=>?_)
      ·refine BG FJ aJ k0 [(0,6),(1,6)] fun m1 i0=>?_
       refine IA (HQ BL (t:=73) (x:=.tmp 56) (y:=.tmp 58) (by kernel_rfl) rfl (b:=bp) (m:=a) (by kernel_rfl) x.nm (by kernel_rfl) (KJ g) (AY.below k i0.B)) ?_
       refine BQ pT i0 [(1,7),(2,0)] fun k1 h0=>?_
       have h:(As d ms a f x)=(19,(CA a x.nm).getD 0,0,0,x.cnt,0):=by unfold As; rw [o,p,i,j,l,q] <;> rfl
       exact Ab h0 (2,0) (.agg ⟨[D 19,D ((CA a x.nm).getD 0),D 0,D 0,D x.cnt,D 0]⟩) ⟨by rw [h] <;> rfl,h0.B⟩
      ·refine AC Oo k0 [] fun i1 f0=>?_
       refine AM (x.op == 21) (fun z=>?_) (fun z=>?_)
       ·refine BG FJ aI f0 [(0,6),(1,6)] fun h1 e0=>?_
        refine IA (HQ BL (t:=73) (x:=.tmp 66) (y:=.tmp 68) (by kernel_rfl) rfl (b:=bp) (m:=a) (by kernel_rfl) x.nm (by kernel_rfl) (KJ g) (AY.below k e0.B)) ?_
        refine BQ pS e0 [(1,7),(2,0)] fun g1 d0=>?_
        have h:(As d ms a f x)=(20,(CA a x.nm).getD 0,0,0,x.cnt,0):=by unfold As; rw [o,p,i,j,l,q,z] <;> rfl
        exact Ab d0 (2,0) (.agg ⟨[D 20,D ((CA a x.nm).getD 0),D 0,D 0,D x.cnt,D 0]⟩) ⟨by rw [h] <;> rfl,d0.B⟩
       ·refine AC aH f0 [(1,0)] fun a1 c1=>?_
        refine Ap c1 (bc x.op a1) fun f1 b1=>?_
        refine BQ pR b1 [(2,0)] fun e1 c0=>?_
        have h:(As d ms a f x)=(qk1 x.op,0,0,0,0,0):=by unfold As; rw [o,p,i,j,l,q,z] <;> rfl
        exact Ab c0 (2,0) (.agg ⟨[D (qk1 x.op),D 0,D 0,D 0,D 0,D 0]⟩) ⟨by rw [h] <;> rfl,c0.B⟩
end
end Go.Proofs.YtmcpjkcggfmcmaaGreatDoor

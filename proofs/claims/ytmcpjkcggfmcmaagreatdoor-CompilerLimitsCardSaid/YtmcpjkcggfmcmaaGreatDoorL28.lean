/-
  Part 28 of a proof: contracts of functions.
-/
import Derived.Test.YtmcpjkcggfmcmaaGreatDoorL27
set_option linter.all false
namespace Go.Proofs.YtmcpjkcggfmcmaaGreatDoor
open Go.RowKit
set_option maxRecDepth 100000
set_option maxHeartbeats 600000
theorem Ic {n q:Nat} {v:Value} (hq:q < n):∀ {rs:List (List Value)} {j:Nat} {r:List Value},(∀ r∈rs,r.length=n)→rs[j]?=some r→(rs.set j (r.set q v)).flatten=rs.flatten.set (j * n + q) v
 | [],j,r,_,h=>by simp at h
 | r0 :: rs,0,r,hn,h=>by
  simp at h
  subst h
  have:=hn r0 (by simp)
  rw [List.set_cons_zero,List.flatten_cons,List.flatten_cons,Nat.zero_mul,Nat.zero_add,List.set_append,if_pos (by omega)]
 | r0 :: rs,j + 1,r,hn,h=>by
  have h0:=hn r0 (by simp)
  have:=Ic hq (fun r hr=>hn r (by simp [hr])) (show rs[j]?=some r by simpa using h) (v:=v)
  rw [List.set_cons_succ,List.flatten_cons,List.flatten_cons,this,List.set_append,if_neg (by rw [h0,Nat.succ_mul]; omega),h0,show (j + 1) * n + q - n=j * n + q by rw [Nat.succ_mul]; omega]
def Qz (n:Nat) (E:Nat→Value) (todo:List Item):Option (TypeId×Value×Value×Option Tmp):=match EJ n E todo with
 | some o=>match o.op with
  | .store t x y=>some (t,BJ n E x,BJ n E y,o.dst)
  | _=>none
 | none=>none
section
variable {P:Program} {fi:FuncId} {R:Ending→World→Prop}
theorem Ej {α:Type} {T:TypeId} {n:Nat} {rel:α→List Value→Prop} {b g c:Nat} {l:List α} {L:List Th} {w:World} {k:Nat} {td:List Item} {E:Nat→Value} (H:AY b w L) (i:Nat) (hi:L[i]?=some (Th.row T n rel (some ⟨g,0,none⟩) c l))
  (j:Nat) (e e':α) (he:l[j]?=some e) (q:Nat) (hq:q < n) (v:Value) (hrel:∀ r,rel e r→rel e' (r.set q v)) (hn:∀ e r,rel e r→r.length=n) (t:TypeId) (dst:Option Tmp)
  (hc:Qz k E td=some (t,.pointer (some ⟨g,0 + j * n + q,none⟩),v,dst)) (hsz:MP P t=some 1) (hv:v.cells.toList=[v]) (h1:v.oneCell'=true)
  (hk:∀ w',AY b w' (L.set i (Th.row T n rel (some ⟨g,0,none⟩) c (l.set j e')))→Below b w w'→w'.heap.size=w.heap.size→At P fi R (AF td) (Fr k (BO E dst undef)) w'):At P fi R td (Fr k E) w:=by
 obtain ⟨rs,hrs,hP⟩:(Th.row T n rel (some ⟨g,0,none⟩) c l).P w:=H.all i _ hi
 rcases hP.2 with ⟨h0,_⟩ | ⟨g',cap,cur,hA,_,hg,hc1,hc2,hc3,ht⟩
 ·cases h0
 obtain ⟨rfl,rfl⟩:g=g'∧c=cap:=by
  injection hA with e1 e2 e3
  injection e1 with e1
  injection e1 with e1
  exact ⟨e1,e3⟩
 have hwide:=IP hn hrs
 have hrl:rs.length=l.length:=Gk hrs
 obtain ⟨r,hr,hre⟩:=NO hrs he
 have hjl:j < l.length:=(List.getElem?_eq_some_iff.1 he).1
 have hjn:j * n + q < l.length * n:=by
  have:(j + 1) * n≤l.length * n:=Nat.mul_le_mul_right n hjl
  rw [Nat.succ_mul] at this
  omega
 have hcn:l.length * n≤c * n:=Nat.mul_le_mul_right n hc1
 have hfit:(0 + j * n + q) + 0 + [v].length≤cur.size:=by rw [hc3]; simp; omega
 have hst:=run_storeCells_at P g (0 + j * n + q) T [v] 0 cur w hg hfit (fun u hu=>by rw [List.mem_singleton.1 hu]; exact h1)
 have hcur:(cur.toList.take ((0 + j * n + q) + 0)++[v]++cur.toList.drop ((0 + j * n + q) + 0 + [v].length))=cur.toList.set (j * n + q) v:=by
  rw [List.set_eq_take_append_cons_drop,if_pos (by rw [Array.length_toList,hc3]; omega)]
  simp
 rw [hcur] at hst
 have hk2:∀ q',q' < w.heap.size→q'≠g→(w.setRow g (cur.toList.set (j * n + q) v).toArray).heap[q']?=w.heap[q']?:=fun q' _ hne=>setRow_other w g q' _ hne
 have hsize:(w.setRow g (cur.toList.set (j * n + q) v).toArray).heap.size=w.heap.size:=by unfold World.setRow; simp
 have hlo:=H.lo i _ hi g rfl
 have H':AY b (w.setRow g (cur.toList.set (j * n + q) v).toArray) (L.set i (Th.row T n rel (some ⟨g,0,none⟩) c (l.set j e'))):=by
  refine H.set i hi (by rw [hsize]; exact Nat.le_refl _) (show (Th.row T n rel (some ⟨g,0,none⟩) c (l.set j e')).P _ from ⟨rs.set j (r.set q v),QM (hrel r hre) j hrs,?_,.inr ⟨g,c,_,by rw [List.length_set],Nat.zero_le _,setRow_heap w g cur _ T _ hg,by rw [List.length_set]; exact hc1,hc2,by simp [hc3],?_⟩⟩) (fun q' hq'=>⟨?_,.inl hq'⟩) (fun q' hq' hf=>hk2 q' hq' fun e=>hf (by rw [e]; rfl))
  ·have hfl:=hP.1
   rw [Ic hq hwide hr,List.length_set,List.length_set]
   exact hfl
  ·rw [List.length_set,Ic hq hwide hr,← ht,List.toList_toArray,List.take_set]
  ·obtain rfl:g=q':=by have:=Option.some.inj hq'; injection this
   rw [hsize]
   exact hlo.2
 have hB:Below b w (w.setRow g (cur.toList.set (j * n + q) v).toArray):=⟨rfl,rfl,rfl,by rw [hsize]; exact Nat.le_refl _,fun q' hq'=>hk2 q' (Nat.lt_of_lt_of_le hq' H.base) (fun e=>by omega)⟩
 have hcont:=hk _ H' hB hsize
 unfold Qz at hc
 split at hc
 ·rename_i op hcur'
  split at hc
  ·rename_i t' x y ho
   simp only [Option.some.injEq,Prod.mk.injEq] at hc
   obtain ⟨rfl,hx,hy,rfl⟩:=hc
   refine OB op hcur' ?_ hcont
   have hsz2:v.cells.size=1:=by rw [← Array.length_toList,hv]; rfl
   clear H' hB hk hcont hk2 hsize hcur hfit
   generalize 0 + j * n + q=o9 at hst hx
   generalize w.setRow g (cur.toList.set (j * n + q) v).toArray=w9 at hst ⊢
   unfold execOp
   simp only [ho,hx,hy]
   simp [Instr.storeAt,Instr.sureAddr,storeVar,LO hsz,hv,hsz2,hst]
  ·cases hc
 ·cases hc
end
section
variable {P:Program} {ops:Array Oper} {Q:Exit→Act→World→Prop} {md:Region.Mode} {n:Nat} {E:Nat→Value}
theorem FG {listed:Array Bool} {fuel i:Nat} {w:World} (o:Oper) (g:FuncId) (xs:List Operand) (args:List Value) {ats:Array TypeId} (h:Calls P g args.toArray w fun e w'=>∃ v,e=.returned v∧wpAny P md ops Q fuel (listed.setIfInBounds i true) (Fr n (BO E o.dst v)) w') (hr:Region.ready md ops listed=[i]:=by kernel_rfl) (ho:ops[i]?=some o:=by kernel_rfl) (hgd:o.guard=none:=by kernel_rfl) (hop:o.op=.call ⟨.value (.func g),xs.toArray,ats⟩:=by kernel_rfl) (ha:xs.map (BJ n E)=args:=by kernel_rfl) (hg:DO P g=true:=by kernel_rfl):wpAny P md ops Q (fuel + 1) listed (Fr n E) w:=by
 refine Kj hr ho hgd ?_
 unfold Oper.wp
 rw [DU]
 have e:(execOp (BJ n E) o).run P w=.ok (.enter g args.toArray) w:=by
  rw [← Ci (h:=hg) args.toArray w,← ha]
  obtain ⟨d,op,ty,pos,af,gd⟩:=o
  simp only at hop
  subst hop
  unfold execOp resolve
  simp only [List.map_toArray]
  show ((Deferred.ofValue (.func (.func g) #[] #[]) (xs.map (BJ n E)).toArray).bind fun d=>invoke d.target d.args).run P w=_
  unfold Deferred.ofValue
  simp [invoke,pure,Sem.bind]
 rw [e]
 refine h.mono fun en w' hh=>?_
 obtain ⟨v,rfl,hat⟩:=hh
 show wpAny P md ops Q fuel _ ((Fr n E).put o.dst v) w'
 rw [Dp]
 exact hat
end
abbrev AJ:=Int×Int×Int×Int×Int×Int
abbrev IB (x:AJ):List Value:=[.int .i64 x.1,.int .i64 x.2.1,.int .i64 x.2.2.1,.int .i64 x.2.2.2.1,.int .i64 x.2.2.2.2.1,.int .i64 x.2.2.2.2.2]
abbrev CM (A:Option Addr) (c:Nat) (l:List AJ):Th:=Th.row 53 6 (fun e r=>r=IB e) A c l
instance:Inhabited AJ:=⟨(0,0,0,0,0,0)⟩
def Al (l:List AJ) (i:Nat) (v:Int):List AJ:=l.set i ((l.getD i default).1,v,(l.getD i default).2.2)
theorem DE (l:List AJ) (i:Nat) (v:Int):(Al l i v).length=l.length:=by unfold Al; rw [List.length_set]
theorem AZ.below {α β:Type} [DecidableEq α] {S:AZ α β} {b:Nat} {m:List (α×β)} {w w':World} (h:S.at b m w) (B:Below w.heap.size w w'):S.at b m w':=S.at_fr h fun hl=>B.block b hl
theorem IE {x:Ex} (h:DT x):x.nm.length≤4294967296:=by
 cases x with
 | mk=>exact h.1
def F9:Op→Bool
 | .store _ _ _=>true
 | _=>false
end Go.Proofs.YtmcpjkcggfmcmaaGreatDoor
namespace Go.Proofs.YtmcpjkcggfmcmaaGreatDoor
noncomputable section
open Go.RowKit
set_option maxRecDepth 100000
set_option maxHeartbeats 1000000
attribute [local irreducible] BD Bb AF AG AL A4 Ai AO BO CV Di CC Bp At Fr
def Ah (mi:List (List UInt8×Int)) (ms:List (List UInt8×Int)) (mp:List (List UInt8×Int)) (mr:List (List UInt8×Int)) (x:Ex):Int×Int×Int×Int×Int×Int:=cond (x.op == 1) ((1,0,x.num,x.den,0,0)) (cond (x.op == 2) (((AX x.cnt).1,(AX x.cnt).2.1,(AX x.cnt).2.2.1,(AX x.cnt).2.2.2.1,(AX x.cnt).2.2.2.2.1,(AX x.cnt).2.2.2.2.2)) (cond (x.op == 3) (cond ((BV mi x.nm).isSome) ((2,(BV mi x.nm).getD 0,0,0,0,0)) ((3,(BV mr x.nm).getD 0,0,0,0,0))) (cond (x.op == 4) ((4,(BV ms x.nm).getD 0,0,0,0,0)) (cond (x.op == 19) ((18,0,x.num,x.den,0,x.md)) (cond (x.op == 20) ((19,(BV mp x.nm).getD 0,0,0,x.cnt,0)) (cond (x.op == 21) ((20,(BV mp x.nm).getD 0,0,0,x.cnt,0)) ((D3 x.op,0,0,0,0,0))))))))
noncomputable def SN:Code:=Tryz.f55.body.getD .skip
def UH:List Item:=AB 60 ([.code SN])
def ll:List Item:=AB 60 (AG UH)
def UG:List Item:=AB 60 (AL UH)
def cz:List Item:=AB 60 (AG UG)
def lk:List Item:=AB 60 (AF cz)
def Ok:List Item:=AB 60 (AL UG)
def cw:List Item:=AB (As D5 90 (AG Ok)) (AG Ok)
def Oj:List Item:=AB 60 (AF cw)
def lj:List Item:=AB 60 (AG Oj)
def cv:List Item:=AB (As D5 90 (AL Oj)) (AL Oj)
def ip:List Item:=AB 60 (AF cv)
def L6:List Item:=AB 60 (AL Ok)
def WT:List Item:=AB (As D5 90 (AG L6)) (AG L6)
def io:List Item:=AB 60 (AF WT)
def Po:List Item:=AB 60 (AL L6)
def im:List Item:=AB 60 (AG Po)
def L5:List Item:=AB 60 (AL Po)
def WS:List Item:=AB (As D5 90 (AG L5)) (AG L5)
def il:List Item:=AB 60 (AF WS)
def L4:List Item:=AB 60 (AL L5)
def WR:List Item:=AB (As D5 90 (AG L4)) (AG L4)
def ik:List Item:=AB 60 (AF WR)
def WQ:List Item:=AB 60 (AL L4)
def ij:List Item:=AB 60 (AF WQ)
theorem Mk (p0aaA:Option Addr) (p0aan:Nat) (p0aac:Nat) (p0abA:Option Addr) (p0abn:Nat) (p0abc:Nat) (p0acA:Option Addr) (p0acn:Nat) (p0acc:Nat) (p0adA:Option Addr) (p0adn:Nat) (p0adc:Nat) (bi:Nat) (mi:List (List UInt8×Int)) (bs:Nat) (ms:List (List UInt8×Int)) (bp:Nat) (mp:List (List UInt8×Int)) (br:Nat) (mr:List (List UInt8×Int)) (x:Ex) (p1A0:Option Addr) (p1c0:Nat) (w:World) (hm_mi:AZ.at BC bi mi w) (hm_ms:AZ.at BC bs ms w) (hm_mp:AZ.at BC bp mp w) (hm_mr:AZ.at BC br mr w) (h_x0:rowsEx w p1A0 x.ks) (hlim:DT x):Calls Tryz.prog 55 ([.agg ⟨[.slice p0aaA p0aan p0aac,.slice p0abA p0abn p0abc,.slice p0acA p0acn p0acc,.slice p0adA p0adn p0adc,.map (some bi),.map (some bs),.map (some bp),.map (some br)]⟩,.agg ⟨[.int .i64 x.op,.int .i64 x.num,.int .i64 x.den,.int .i64 x.mu,.int .i64 x.hu,.int .i64 x.du,.string ⟨⟨x.nm⟩⟩,.int .i64 x.cnt,.int .i64 x.md,.slice p1A0 x.ks.length p1c0]⟩]:List Value).toArray w fun e w'=>e=.returned (.agg ⟨[.int .i64 (((Ah mi ms mp mr x)).1),.int .i64 (((Ah mi ms mp mr x)).2.1),.int .i64 (((Ah mi ms mp mr x)).2.2.1),.int .i64 (((Ah mi ms mp mr x)).2.2.2.1),.int .i64 (((Ah mi ms mp mr x)).2.2.2.2.1),.int .i64 (((Ah mi ms mp mr x)).2.2.2.2.2)]⟩)∧Below w.heap.size w w':=by
 refine Ab (fn:=Tryz.f55) (c:=SN) (n:=77) ?_
 have K1:=Wk.start w
 refine BF UH K1 [(1,0)] fun w1 K2=>?_
 refine AK (x.op == 1) (fun c2=>?_) (fun c2=>?_)
 ·refine BF ll K2 [(1,1),(2,0)] fun w3 K3=>?_
  have hS:(Ah mi ms mp mr x)=(1,0,x.num,x.den,0,0):=by unfold Ah; rw [c2] <;> rfl
  exact Aa K3 (2,0) (.agg ⟨[.int .i64 1,.int .i64 0,.int .i64 x.num,.int .i64 x.den,.int .i64 0,.int .i64 0]⟩) ⟨by rw [hS] <;> rfl,K3.B⟩
 ·refine AC UG K2 [] fun w4 K4=>?_
  refine AK (x.op == 2) (fun c5=>?_) (fun c5=>?_)
  ·refine AC cz K4 [(1,7)] fun w6 K5=>?_
   refine Ak K5 (LR x.cnt w6) fun w7 K6=>?_
   refine BF lk K6 [(2,0)] fun w8 K7=>?_
   have hS:(Ah mi ms mp mr x)=((AX x.cnt).1,(AX x.cnt).2.1,(AX x.cnt).2.2.1,(AX x.cnt).2.2.2.1,(AX x.cnt).2.2.2.2.1,(AX x.cnt).2.2.2.2.2):=by unfold Ah; rw [c2,c5] <;> rfl
   exact Aa K7 (2,0) (XH (AX x.cnt)) ⟨by rw [hS] <;> rfl,K7.B⟩
  ·refine AC Ok K4 [] fun w9 K8=>?_
   refine AK (x.op == 3) (fun c10=>?_) (fun c10=>?_)
   ·refine BA D5 cw K8 [(0,4),(1,6)] fun w11 K9=>?_
    refine F5 (Mt BC (t:=73) (x:=.tmp 23) (y:=.tmp 25) (by kernel_rfl) rfl (b:=bi) (m:=mi) (by kernel_rfl) x.nm (by kernel_rfl) (IE hlim) (AZ.below hm_mi K9.B)) ?_
    refine AC Oj K9 [] fun w12 K10=>?_
    refine AK ((BV mi x.nm).isSome) (fun c13=>?_) (fun c13=>?_)
    ·refine BF lj K10 [(2,0)] fun w14 K11=>?_
     have hS:(Ah mi ms mp mr x)=(2,(BV mi x.nm).getD 0,0,0,0,0):=by unfold Ah; rw [c2,c5,c10,c13] <;> rfl
     exact Aa K11 (2,0) (.agg ⟨[.int .i64 2,.int .i64 ((BV mi x.nm).getD 0),.int .i64 0,.int .i64 0,.int .i64 0,.int .i64 0]⟩) ⟨by rw [hS] <;> rfl,K11.B⟩
    ·refine BA D5 cv K10 [(0,7),(1,6)] fun w15 K12=>?_
     refine F5 (Fb BC (t:=73) (x:=.tmp 33) (y:=.tmp 35) (by kernel_rfl) rfl (b:=br) (m:=mr) (by kernel_rfl) x.nm (by kernel_rfl) (IE hlim) (AZ.below hm_mr K12.B)) ?_
     refine BF ip K12 [(2,0)] fun w16 K13=>?_
     have hS:(Ah mi ms mp mr x)=(3,(BV mr x.nm).getD 0,0,0,0,0):=by unfold Ah; rw [c2,c5,c10,c13] <;> rfl
     exact Aa K13 (2,0) (.agg ⟨[.int .i64 3,.int .i64 ((BV mr x.nm).getD 0),.int .i64 0,.int .i64 0,.int .i64 0,.int .i64 0]⟩) ⟨by rw [hS] <;> rfl,K13.B⟩
   ·refine AC L6 K8 [] fun w17 K14=>?_
    refine AK (x.op == 4) (fun c18=>?_) (fun c18=>?_)
    ·refine BA D5 WT K14 [(0,5),(1,6)] fun w19 K15=>?_
     refine F5 (Fb BC (t:=73) (x:=.tmp 41) (y:=.tmp 43) (by kernel_rfl) rfl (b:=bs) (m:=ms) (by kernel_rfl) x.nm (by kernel_rfl) (IE hlim) (AZ.below hm_ms K15.B)) ?_
     refine BF io K15 [(2,0)] fun w20 K16=>?_
     have hS:(Ah mi ms mp mr x)=(4,(BV ms x.nm).getD 0,0,0,0,0):=by unfold Ah; rw [c2,c5,c10,c18] <;> rfl
     exact Aa K16 (2,0) (.agg ⟨[.int .i64 4,.int .i64 ((BV ms x.nm).getD 0),.int .i64 0,.int .i64 0,.int .i64 0,.int .i64 0]⟩) ⟨by rw [hS] <;> rfl,K16.B⟩
    ·refine AC Po K14 [] fun w21 K17=>?_
     refine AK (x.op == 19) (fun c22=>?_) (fun c22=>?_)
     ·refine BF im K17 [(1,1),(1,8),(2,0)] fun w23 K18=>?_
      have hS:(Ah mi ms mp mr x)=(18,0,x.num,x.den,0,x.md):=by unfold Ah; rw [c2,c5,c10,c18,c22] <;> rfl
      exact Aa K18 (2,0) (.agg ⟨[.int .i64 18,.int .i64 0,.int .i64 x.num,.int .i64 x.den,.int .i64 0,.int .i64 x.md]⟩) ⟨by rw [hS] <;> rfl,K18.B⟩
     ·refine AC L5 K17 [] fun w24 K19=>?_
      refine AK (x.op == 20) (fun c25=>?_) (fun c25=>?_)
      ·refine BA D5 WS K19 [(0,6),(1,6)] fun w26 K20=>?_
       refine F5 (Fb BC (t:=73) (x:=.tmp 56) (y:=.tmp 58) (by kernel_rfl) rfl (b:=bp) (m:=mp) (by kernel_rfl) x.nm (by kernel_rfl) (IE hlim) (AZ.below hm_mp K20.B)) ?_
       refine BF il K20 [(1,7),(2,0)] fun w27 K21=>?_
       have hS:(Ah mi ms mp mr x)=(19,(BV mp x.nm).getD 0,0,0,x.cnt,0):=by unfold Ah; rw [c2,c5,c10,c18,c22,c25] <;> rfl
       exact Aa K21 (2,0) (.agg ⟨[.int .i64 19,.int .i64 ((BV mp x.nm).getD 0),.int .i64 0,.int .i64 0,.int .i64 x.cnt,.int .i64 0]⟩) ⟨by rw [hS] <;> rfl,K21.B⟩
      ·refine AC L4 K19 [] fun w28 K22=>?_
       refine AK (x.op == 21) (fun c29=>?_) (fun c29=>?_)
       ·refine BA D5 WR K22 [(0,6),(1,6)] fun w30 K23=>?_
        refine F5 (Fb BC (t:=73) (x:=.tmp 66) (y:=.tmp 68) (by kernel_rfl) rfl (b:=bp) (m:=mp) (by kernel_rfl) x.nm (by kernel_rfl) (IE hlim) (AZ.below hm_mp K23.B)) ?_
        refine BF ik K23 [(1,7),(2,0)] fun w31 K24=>?_
        have hS:(Ah mi ms mp mr x)=(20,(BV mp x.nm).getD 0,0,0,x.cnt,0):=by unfold Ah; rw [c2,c5,c10,c18,c22,c25,c29] <;> rfl
        exact Aa K24 (2,0) (.agg ⟨[.int .i64 20,.int .i64 ((BV mp x.nm).getD 0),.int .i64 0,.int .i64 0,.int .i64 x.cnt,.int .i64 0]⟩) ⟨by rw [hS] <;> rfl,K24.B⟩
       ·refine AC WQ K22 [(1,0)] fun w32 K25=>?_
        refine Ak K25 (XI x.op w32) fun w33 K26=>?_
        refine BF ij K26 [(2,0)] fun w34 K27=>?_
        have hS:(Ah mi ms mp mr x)=(D3 x.op,0,0,0,0,0):=by unfold Ah; rw [c2,c5,c10,c18,c22,c25,c29] <;> rfl
        exact Aa K27 (2,0) (.agg ⟨[.int .i64 (D3 x.op),.int .i64 0,.int .i64 0,.int .i64 0,.int .i64 0,.int .i64 0]⟩) ⟨by rw [hS] <;> rfl,K27.B⟩
end
end Go.Proofs.YtmcpjkcggfmcmaaGreatDoor

/-
  Part 40 of a proof: contracts of functions.
-/
import Derived.Test.YtmcpjkcggfmcmaaGreatDoorL39
set_option linter.all false
namespace Go.Proofs.YtmcpjkcggfmcmaaGreatDoor
noncomputable section
open Go.RowKit
set_option maxRecDepth 100000
set_option maxHeartbeats 1000000
attribute [local irreducible] BD Bb AF AG AL A4 Ai AO BO CV Di CC Bp At Fr
def CJ (p0an:Nat) (p0bn:Nat) (p0cn:Nat) (rts:List (Do)) (k:Nat) (p2:Int) (p3a:Int) (p3b:Int):Bool:=cond (p3a == 2) (DN p3b (p0an:Int)) (cond (p3a == 4) (DN p3b (p0bn:Int)) (cond (p3a == 19) (DN p3b (p0cn:Int)) (cond (p3a == 20) (DN p3b (p0cn:Int)) (cond (p3a == 3) (DN p3b (k:Int)) (cond (p3a == 16) (cond (decide (p2 < p3b)) (decide (p3b≤((rts.getD k default).2.2.2.2.2.length:Int))) (false)) (cond (p3a == 17) (cond (decide (p2 < p3b)) (decide (p3b≤((rts.getD k default).2.2.2.2.2.length:Int))) (false)) (cond (cond (decide (1≤p3a)) (decide (p3a≤20)) (false)) (p3b == 0) (false))))))))
noncomputable def SQ:Code:=Tryz.f26.body.getD .skip
def Ul:List Item:=AB 60 ([.code SQ])
def dd:List Item:=AB 60 (AG Ul)
def l6:List Item:=AB 60 (AF dd)
def Uk:List Item:=AB 60 (AL Ul)
def dc:List Item:=AB 60 (AG Uk)
def l4:List Item:=AB 60 (AF dc)
def Uj:List Item:=AB 60 (AL Uk)
def db:List Item:=AB 60 (AG Uj)
def da:List Item:=AB 60 (AG db)
def l0:List Item:=AB 60 (AF da)
def Px:List Item:=AB 60 (AL Uj)
def Wm:List Item:=AB 60 (AG Px)
def jc:List Item:=AB 60 (AF Wm)
def Pw:List Item:=AB 60 (AL Px)
def Wl:List Item:=AB 60 (AG Pw)
def jb:List Item:=AB 60 (AF Wl)
def Pv:List Item:=AB 60 (AL Pw)
def Wj:List Item:=AB 60 (AG Pv)
def Wi:List Item:=Ac 13 (AG Wj)
def ja:List Item:=AB 60 (AO Wi)
def Pu:List Item:=AB 60 (AL Pv)
def Wh:List Item:=Ac 13 (AG Pu)
def jZ:List Item:=AB 60 (AO Wh)
def Wg:List Item:=Ac 14 (AL Pu)
def jY:List Item:=AB 60 (AO Wg)
theorem O9 (p0aA:Option Addr) (p0an:Nat) (p0ac:Nat) (p0bA:Option Addr) (p0bn:Nat) (p0bc:Nat) (p0cA:Option Addr) (p0cn:Nat) (p0cc:Nat) (p0dA:Option Addr) (rts:List (Do)) (p0dc:Nat) (k:Nat) (p2:Int) (p3a:Int) (p3b:Int) (p3ca:Int) (p3cb:Int) (p3d:Int) (p3e:Int) (w:World) (h_rts:rowsRt w p0dA rts) (hl_rts:rts.length≤4294967296) (hi_k:k < rts.length):Calls Tryz.prog 26 ([.agg ⟨[.slice p0aA p0an p0ac,.slice p0bA p0bn p0bc,.slice p0cA p0cn p0cc,.slice p0dA rts.length p0dc]⟩,.int .i64 ((k:Int)),.int .i64 p2,.agg ⟨[.int .i64 p3a,.int .i64 p3b,.int .i64 p3ca,.int .i64 p3cb,.int .i64 p3d,.int .i64 p3e]⟩]:List Value).toArray w fun e w'=>e=.returned (.bool ((CJ p0an p0bn p0cn rts k p2 p3a p3b)))∧Below w.heap.size w w':=by
 refine Ab (fn:=Tryz.f26) (c:=SQ) (n:=74) ?_
 have K1:=Wk.start w
 refine Bv Ul [⟨w.heap.size,0,[.slice p0aA p0an p0ac,.slice p0bA p0bn p0bc,.slice p0cA p0cn p0cc,.slice p0dA rts.length p0dc],43,true⟩,⟨w.heap.size + 1,0,[.int .i64 p3a,.int .i64 p3b,.int .i64 p3ca,.int .i64 p3cb,.int .i64 p3d,.int .i64 p3e],53,true⟩] K1 [(1,0)] fun w1 K2=>?_
 refine AK (p3a == 2) (fun c2=>?_) (fun c2=>?_)
 ·refine AC dd K2 [(1,1),(0,0)] fun w3 K3=>?_
  refine Ak K3 (F2 p3b (p0an:Int) w3) fun w4 K4=>?_
  refine AC l6 K4 [] fun w5 K5=>?_
  have hS:(CJ p0an p0bn p0cn rts k p2 p3a p3b)=(DN p3b (p0an:Int)):=by unfold CJ; rw [c2] <;> rfl
  exact Aa K5 (0,0) (.bool (DN p3b (p0an:Int))) ⟨by rw [hS] <;> rfl,K5.B⟩
 ·refine AC Uk K2 [] fun w6 K6=>?_
  refine AK (p3a == 4) (fun c7=>?_) (fun c7=>?_)
  ·refine AC dc K6 [(1,1),(0,1)] fun w8 K7=>?_
   refine Ak K7 (F2 p3b (p0bn:Int) w8) fun w9 K8=>?_
   refine AC l4 K8 [] fun w10 K9=>?_
   have hS:(CJ p0an p0bn p0cn rts k p2 p3a p3b)=(DN p3b (p0bn:Int)):=by unfold CJ; rw [c2,c7] <;> rfl
   exact Aa K9 (0,0) (.bool (DN p3b (p0bn:Int))) ⟨by rw [hS] <;> rfl,K9.B⟩
  ·refine AC Uj K6 [] fun w11 K10=>?_
   refine AK (p3a == 19) (fun c12=>?_) (fun c12=>?_)
   ·refine AC db K10 [] fun w13 K11=>?_
    refine AK (p3a == 19) (fun _=>?_) (fun h=>nomatch h.symm.trans c12)
    refine AC da K11 [(1,1),(0,2)] fun w15 K12=>?_
    refine Ak K12 (F2 p3b (p0cn:Int) w15) fun w16 K13=>?_
    refine AC l0 K13 [] fun w17 K14=>?_
    have hS:(CJ p0an p0bn p0cn rts k p2 p3a p3b)=(DN p3b (p0cn:Int)):=by unfold CJ; rw [c2,c7,c12] <;> rfl
    exact Aa K14 (0,0) (.bool (DN p3b (p0cn:Int))) ⟨by rw [hS] <;> rfl,K14.B⟩
   ·refine AC Px K10 [] fun w18 K15=>?_
    refine AK (p3a == 20) (fun c19=>?_) (fun c19=>?_)
    ·refine AC Wm K15 [(1,1),(0,2)] fun w20 K16=>?_
     refine Ak K16 (F2 p3b (p0cn:Int) w20) fun w21 K17=>?_
     refine AC jc K17 [] fun w22 K18=>?_
     have hS:(CJ p0an p0bn p0cn rts k p2 p3a p3b)=(DN p3b (p0cn:Int)):=by unfold CJ; rw [c2,c7,c12,c19] <;> rfl
     exact Aa K18 (0,0) (.bool (DN p3b (p0cn:Int))) ⟨by rw [hS] <;> rfl,K18.B⟩
    ·refine AC Pw K15 [] fun w23 K19=>?_
     refine AK (p3a == 3) (fun c24=>?_) (fun c24=>?_)
     ·refine AC Wl K19 [(1,1)] fun w25 K20=>?_
      refine Ak K20 (F2 p3b (k:Int) w25) fun w26 K21=>?_
      refine AC jb K21 [] fun w27 K22=>?_
      have hS:(CJ p0an p0bn p0cn rts k p2 p3a p3b)=(DN p3b (k:Int)):=by unfold CJ; rw [c2,c7,c12,c19,c24] <;> rfl
      exact Aa K22 (0,0) (.bool (DN p3b (k:Int))) ⟨by rw [hS] <;> rfl,K22.B⟩
     ·refine AC Pv K19 [] fun w28 K23=>?_
      refine AK (p3a == 16) (fun c29=>?_) (fun c29=>?_)
      ·refine AC Wj K23 [] fun w30 K24=>?_
       refine AK (p3a == 16) (fun _=>?_) (fun h=>nomatch h.symm.trans c29)
       refine Ag 13 Wi K24 [] fun w32 K25=>?_
       obtain ⟨gB0,fB0,rfl,hB0g,hB0a⟩:=h_rts.all (by omega)
       have hd0:rts[k]?=some (rts.getD k default):=getD_some default hi_k
       obtain ⟨aE0_0,cE0_0,hr0_,hE0_0⟩:=hB0a k _ hd0
       refine Aj K25 [(1,1,1),(6,1,1),(8,0,3),(12,2,5)] [⟨10,[(53,.slice (some ⟨gB0,fB0,none⟩) rts.length p0dc),(54,.int .i64 ((k:Int)))],.pointer (some ⟨gB0,fB0 + k * 6,none⟩),((decide (p2 < p3b))) && (true)⟩] (Fq (x:=⟨gB0,fB0 + k * 6,[.string ⟨⟨(rts.getD k default).1⟩⟩,.bool ((rts.getD k default).2.1),.int .i64 ((rts.getD k default).2.2.1),.int .i64 ((rts.getD k default).2.2.2.1),.int .i64 ((rts.getD k default).2.2.2.2.1),.slice aE0_0 ((rts.getD k default).2.2.2.2.2.length) cE0_0],49,false⟩) K25.G ⟨Nat.lt_of_lt_of_le hB0g K25.B.size,Af hr0_ hB0g K25.B⟩) (fun sp hsp=>?_) fun w33 E33 K26=>?_
       ·rw [List.mem_singleton.1 hsp]
        exact Av fun _ E u _=>Cd (sz:=6) (cap:=p0dc) 41 (.tmp 53) (.tmp 54) (by kernel_rfl) (by kernel_rfl) hi_k Tryz.underlying41
       refine AC ja K26 [] fun w34 K27=>?_
       have hS:(CJ p0an p0bn p0cn rts k p2 p3a p3b)=(cond (decide (p2 < p3b)) (decide (p3b≤((rts.getD k default).2.2.2.2.2.length:Int))) (false)):=by unfold CJ; rw [c2,c7,c12,c19,c24,c29] <;> rfl
       exact Aa K27 (0,0) (.bool (cond (decide (p2 < p3b)) (decide (p3b≤((rts.getD k default).2.2.2.2.2.length:Int))) (false))) ⟨by rw [hS] <;> rfl,K27.B⟩
      ·refine AC Pu K23 [] fun w35 K28=>?_
       refine AK (p3a == 17) (fun c36=>?_) (fun c36=>?_)
       ·refine Ag 13 Wh K28 [] fun w37 K29=>?_
        obtain ⟨gB0,fB0,rfl,hB0g,hB0a⟩:=h_rts.all (by omega)
        have hd0:rts[k]?=some (rts.getD k default):=getD_some default hi_k
        obtain ⟨aE0_0,cE0_0,hr0_,hE0_0⟩:=hB0a k _ hd0
        refine Aj K29 [(1,1,1),(6,1,1),(8,0,3),(12,2,5)] [⟨10,[(53,.slice (some ⟨gB0,fB0,none⟩) rts.length p0dc),(54,.int .i64 ((k:Int)))],.pointer (some ⟨gB0,fB0 + k * 6,none⟩),((decide (p2 < p3b))) && (true)⟩] (Fq (x:=⟨gB0,fB0 + k * 6,[.string ⟨⟨(rts.getD k default).1⟩⟩,.bool ((rts.getD k default).2.1),.int .i64 ((rts.getD k default).2.2.1),.int .i64 ((rts.getD k default).2.2.2.1),.int .i64 ((rts.getD k default).2.2.2.2.1),.slice aE0_0 ((rts.getD k default).2.2.2.2.2.length) cE0_0],49,false⟩) K29.G ⟨Nat.lt_of_lt_of_le hB0g K29.B.size,Af hr0_ hB0g K29.B⟩) (fun sp hsp=>?_) fun w38 E38 K30=>?_
        ·rw [List.mem_singleton.1 hsp]
         exact Av fun _ E u _=>Cd (sz:=6) (cap:=p0dc) 41 (.tmp 53) (.tmp 54) (by kernel_rfl) (by kernel_rfl) hi_k Tryz.underlying41
        refine AC jZ K30 [] fun w39 K31=>?_
        have hS:(CJ p0an p0bn p0cn rts k p2 p3a p3b)=(cond (decide (p2 < p3b)) (decide (p3b≤((rts.getD k default).2.2.2.2.2.length:Int))) (false)):=by unfold CJ; rw [c2,c7,c12,c19,c24,c29,c36] <;> rfl
        exact Aa K31 (0,0) (.bool (cond (decide (p2 < p3b)) (decide (p3b≤((rts.getD k default).2.2.2.2.2.length:Int))) (false))) ⟨by rw [hS] <;> rfl,K31.B⟩
       ·refine Ag 14 Wg K28 [] fun w40 K32=>?_
        refine Aj K32 [(1,1,0),(5,1,0),(10,1,1)] [] K32.G (fun sp hsp=>by cases hsp) fun w41 E41 K33=>?_
        refine AC jY K33 [] fun w42 K34=>?_
        have hS:(CJ p0an p0bn p0cn rts k p2 p3a p3b)=(cond (cond (decide (1≤p3a)) (decide (p3a≤20)) (false)) (p3b == 0) (false)):=by unfold CJ; rw [c2,c7,c12,c19,c24,c29,c36] <;> rfl
        exact Aa K34 (0,0) (.bool (cond (cond (decide (1≤p3a)) (decide (p3a≤20)) (false)) (p3b == 0) (false))) ⟨by rw [hS] <;> rfl,K34.B⟩
def Ir (cs:List AJ) (i:Nat):Prop:=∀ (q:Nat) (x:AJ),q < i→cs[q]?=some x→x.1=16∨x.1=17→(q:Int) < x.2.1∧x.2.1≤(cs.length:Int)
theorem Rj (cs:List AJ):Ir cs 0:=fun _ _ h=>absurd h (Nat.not_lt_zero _)
theorem Rk {cs:List AJ} {i:Nat} (h:Ir cs i) (hi:i=cs.length):Mo cs:=fun q x hx=>h q x (by rw [hi]; exact (List.getElem?_eq_some_iff.1 hx).1) hx
theorem Qk {p0an p0bn p0cn:Nat} {rts:List Do} {e:Do} {k i:Nat} {x:AJ} {b:Bool} (hI:Ir e.2.2.2.2.2 i) (hx:e.2.2.2.2.2[i]?=some x) (he:rts[k]?=some e) (hc:cond (!b) true (!(CJ p0an p0bn p0cn rts k (i:Int) x.1 x.2.1))=false):Ir e.2.2.2.2.2 (i + 1):=fun q y hq hy hop=>by
 by_cases h:q=i
 ·subst h
  obtain rfl:=Option.some.inj (hx.symm.trans hy)
  have hg:(rts.getD k default).2.2.2.2.2=e.2.2.2.2.2:=by rw [List.getD_eq_getElem?_getD,he]; rfl
  have hv:CJ p0an p0bn p0cn rts k (q:Int) x.1 x.2.1=true:=by
   cases b
   ·cases hc
   ·simpa using hc
  unfold CJ at hv
  rw [hg] at hv
  rcases hop with h1 | h1 <;> rw [h1] at hv <;> simp at hv <;> omega
 ·exact hI q y (by omega) hy hop
def CR (ins:List (List UInt8)) (scs:List (List (Int×Int×Int))) (pas:List (List UInt8)) (rts:List (Do)) (i1:Nat) (k2:Bool):List (AJ)→Nat→Bool
 | [],i2=>k2
 | e2 :: tl,i2=>cond (cond (!(C6 e2.1 e2.2.2.1 e2.2.2.2.1 e2.2.2.2.2.1 e2.2.2.2.2.2)) (true) (!((CJ ins.length scs.length pas.length rts i1 (i2:Int) e2.1 e2.2.1)))) (false) (CR ins scs pas rts i1 k2 tl (i2 + 1))
theorem Kr {ins:List (List UInt8)} {scs:List (List (Int×Int×Int))} {pas:List (List UInt8)} {rts:List (Do)} {i1:Nat} {k2:Bool} {i2:Nat}:CR ins scs pas rts i1 k2 [] i2=(k2):=by rw [CR]
theorem KK {ins:List (List UInt8)} {scs:List (List (Int×Int×Int))} {pas:List (List UInt8)} {rts:List (Do)} {i1:Nat} {k2:Bool} {es:List (AJ)} (i2:Nat) (e2:AJ) (hi:es[i2]?=some e2):CR ins scs pas rts i1 k2 (es.drop i2) i2=(cond (cond (!(C6 e2.1 e2.2.2.1 e2.2.2.2.1 e2.2.2.2.2.1 e2.2.2.2.2.2)) (true) (!((CJ ins.length scs.length pas.length rts i1 (i2:Int) e2.1 e2.2.1)))) (false) (CR ins scs pas rts i1 k2 (es.drop (i2 + 1)) (i2 + 1))):=by
 have hl:i2 < es.length:=(List.getElem?_eq_some_iff.1 hi).1
 have he:es[i2]=e2:=(List.getElem?_eq_some_iff.1 hi).2
 rw [← List.getElem_cons_drop hl,CR] <;> (try rw [he])
def CS (ins:List (List UInt8)) (scs:List (List (Int×Int×Int))) (pas:List (List UInt8)) (rts:List (Do)):List (Do)→Nat→Bool
 | [],i1=>true
 | e1 :: tl,i1=>cond (cond (decide (4096 < (e1.2.2.2.2.2.length:Int))) (true) (!(Dq e1.2.1 e1.2.2.1 e1.2.2.2.1 e1.2.2.2.2.1))) (false) (CR ins scs pas rts i1 (cond (!((CL e1.2.2.2.2.2))) (false) (CS ins scs pas rts tl (i1 + 1))) e1.2.2.2.2.2 0)
theorem Ks {ins:List (List UInt8)} {scs:List (List (Int×Int×Int))} {pas:List (List UInt8)} {rts:List (Do)} {i1:Nat}:CS ins scs pas rts [] i1=(true):=by rw [CS]
theorem KL {ins:List (List UInt8)} {scs:List (List (Int×Int×Int))} {pas:List (List UInt8)} {rts:List (Do)} {es:List (Do)} (i1:Nat) (e1:Do) (hi:es[i1]?=some e1):CS ins scs pas rts (es.drop i1) i1=(cond (cond (decide (4096 < (e1.2.2.2.2.2.length:Int))) (true) (!(Dq e1.2.1 e1.2.2.1 e1.2.2.2.1 e1.2.2.2.2.1))) (false) (CR ins scs pas rts i1 (cond (!((CL e1.2.2.2.2.2))) (false) (CS ins scs pas rts (es.drop (i1 + 1)) (i1 + 1))) e1.2.2.2.2.2 0)):=by
 have hl:i1 < es.length:=(List.getElem?_eq_some_iff.1 hi).1
 have he:es[i1]=e1:=(List.getElem?_eq_some_iff.1 hi).2
 rw [← List.getElem_cons_drop hl,CS] <;> (try rw [he])
def C5 (ins:List (List UInt8)) (scs:List (List (Int×Int×Int))) (pas:List (List UInt8)) (rts:List (Do)):List (List (Int×Int×Int))→Bool
 | []=>CS ins scs pas rts rts 0
 | e0 :: tl=>cond (!(EL e0)) (false) (C5 ins scs pas rts tl)
theorem Kt {ins:List (List UInt8)} {scs:List (List (Int×Int×Int))} {pas:List (List UInt8)} {rts:List (Do)}:C5 ins scs pas rts []=(CS ins scs pas rts rts 0):=by rw [C5]
theorem KM {ins:List (List UInt8)} {scs:List (List (Int×Int×Int))} {pas:List (List UInt8)} {rts:List (Do)} {es:List (List (Int×Int×Int))} (i:Nat) (e0:List (Int×Int×Int)) (hi:es[i]?=some e0):C5 ins scs pas rts (es.drop i)=(cond (!(EL e0)) (false) (C5 ins scs pas rts (es.drop (i + 1)))):=by
 have hl:i < es.length:=(List.getElem?_eq_some_iff.1 hi).1
 have he:es[i]=e0:=(List.getElem?_eq_some_iff.1 hi).2
 rw [← List.getElem_cons_drop hl,C5] <;> (try rw [he])
def Bl (ins:List (List UInt8)) (scs:List (List (Int×Int×Int))) (pas:List (List UInt8)) (rts:List (Do)):Bool:=cond (cond (cond (cond (decide (128 < (ins.length:Int))) (true) (decide (128 < (scs.length:Int)))) (true) (decide (128 < (pas.length:Int)))) (true) (decide (128 < (rts.length:Int)))) (false) (C5 ins scs pas rts scs)
noncomputable def SO:Code:=Tryz.f9.body.getD .skip
def dS:List Item:=Ac 1 ([.code SO])
def Ud:List Item:=AB 60 (AO dS)
def lv:List Item:=AB 60 (AG Ud)
def Uc:List Item:=AB 60 (AL Ud)
def On:List Item:=AB 60 (A4 Uc)
def dR:List Item:=AB (As Ae 90 (AG On)) (AG On)
def dQ:List Item:=AB 60 (AF (AF dR))
def dP:List Item:=AB 60 (AF dQ)
def lu:List Item:=AB 60 (AG dP)
def Ub:List Item:=AB 60 (AL On)
def L8:List Item:=AB 60 (A4 Ub)
def Wa:List Item:=AB (As Ae 90 (AG L8)) (AG L8)
def WZ:List Item:=Ac 12 (AF (AF Wa))
def Pq:List Item:=AB 60 (AO WZ)
def jS:List Item:=AB 60 (AG Pq)
def Pp:List Item:=AB 60 (AL Pq)
def L7:List Item:=AB 60 (A4 Pp)
def WY:List Item:=AB (As Ae 90 (AG L7)) (AG L7)
def WX:List Item:=Ac 17 (AF (AF WY))
def WW:List Item:=AB 60 (AO WX)
def jR:List Item:=AB 60 (AG WW)
def WV:List Item:=AB 60 (AL L7)
def WU:List Item:=AB 60 (AF WV)
def jQ:List Item:=AB 60 (AG WU)
def jP:List Item:=AB 60 (AL L8)
theorem FO (p0aA:Option Addr) (ins:List (List UInt8)) (p0ac:Nat) (p0bA:Option Addr) (scs:List (List (Int×Int×Int))) (p0bc:Nat) (p0cA:Option Addr) (pas:List (List UInt8)) (p0cc:Nat) (p0dA:Option Addr) (rts:List (Do)) (p0dc:Nat) (w:World) (h_ins:rowsStr w p0aA ins) (hl_ins:ins.length≤4294967296) (h_scs:rowsSc w p0bA scs) (hl_scs:scs.length≤4294967296) (h_pas:rowsStr w p0cA pas) (hl_pas:pas.length≤4294967296) (h_rts:rowsRt w p0dA rts) (hl_rts:rts.length≤4294967296) (hlsc:∀ e∈scs,e.length≤4294967296) (hlrt:∀ e∈rts,e.2.2.2.2.2.length≤4294967296):Calls Tryz.prog 9 ([.agg ⟨[.slice p0aA ins.length p0ac,.slice p0bA scs.length p0bc,.slice p0cA pas.length p0cc,.slice p0dA rts.length p0dc]⟩]:List Value).toArray w fun e w'=>e=.returned (.bool ((Bl ins scs pas rts)))∧Below w.heap.size w w':=by
 refine Ab (fn:=Tryz.f9) (c:=SO) (n:=84) ?_
 have K1:=Wk.start w
 refine Bw 1 dS [⟨w.heap.size,0,[.slice p0aA ins.length p0ac,.slice p0bA scs.length p0bc,.slice p0cA pas.length p0cc,.slice p0dA rts.length p0dc],43,true⟩] K1 [] fun w1 K2=>?_
 refine Aj K2 [(1,0,0),(6,0,1),(12,0,2),(18,0,3)] [] K2.G (fun sp hsp=>by cases hsp) fun w2 E2 K3=>?_
 refine AC Ud K3 [] fun w3 K4=>?_
 refine AK (cond (cond (cond (decide (128 < (ins.length:Int))) (true) (decide (128 < (scs.length:Int)))) (true) (decide (128 < (pas.length:Int)))) (true) (decide (128 < (rts.length:Int)))) (fun c4=>?_) (fun c4=>?_)
 ·refine AC lv K4 [] fun w5 K5=>?_
  have hS:(Bl ins scs pas rts)=false:=by unfold Bl; rw [c4] <;> rfl
  exact Aa K5 (0,0) (.bool false) ⟨by rw [hS] <;> rfl,K5.B⟩
 ·refine AC Uc K4 [(0,1)] fun w6 K6=>?_
  have K7:Wk w w6 [⟨w.heap.size,0,[.slice p0aA ins.length p0ac,.slice p0bA scs.length p0bc,.slice p0cA pas.length p0cc,.slice p0dA rts.length p0dc],43,true⟩] [] []:=K6.pk [0] []
  have hv0:(Bl ins scs pas rts)=C5 ins scs pas rts scs:=by unfold Bl; rw [c4] <;> rfl
  refine Ax [(1,.pointer (some ⟨w.heap.size,0,none⟩)),(2,.bool false),(32,.slice p0bA scs.length p0bc),(33,.int .i64 ((scs.length:Int))),(34,.int .i64 (((0:Nat):Int)))] fun E7=>?_
  refine Bj (by kernel_rfl) (fun E wx0=>∃ (i0:Nat) (E0:Nat→Value),i0≤scs.length∧E=CX E0 [(1,.pointer (some ⟨w.heap.size,0,none⟩)),(2,.bool false),(32,.slice p0bA scs.length p0bc),(33,.int .i64 ((scs.length:Int))),(34,.int .i64 ((i0:Int)))]∧(Bl ins scs pas rts)=C5 ins scs pas rts (List.drop i0 scs)∧Wk w wx0 [⟨w.heap.size,0,[.slice p0aA ins.length p0ac,.slice p0bA scs.length p0bc,.slice p0cA pas.length p0cc,.slice p0dA rts.length p0dc],43,true⟩] [] []) (fun E _=>scs.length - AQ (E 34)) ⟨0,E7,Nat.zero_le _,rfl,hv0,K7⟩ ?_
  clear hv0
  rintro E wx0 ⟨i0,E0,hi0,rfl,hv0,K8⟩ hagain0
  refine AC On K8 [] fun w9 K9=>?_
  refine AK (decide ((i0:Int) < (scs.length:Int))) (fun c10=>?_) (fun c10=>?_)
  ·have hlt0:i0 < scs.length:=by have:=of_decide_eq_true c10; omega
   obtain ⟨e0,he0⟩:∃ e,scs[i0]?=some e:=⟨_,List.getElem?_eq_getElem hlt0⟩
   rw [KM i0 e0 he0] at hv0
   obtain ⟨gB0,fB0,rfl,hB0g,hB0a⟩:=h_scs.all (by omega)
   obtain ⟨aE0_0,cE0_0,hr0_,hE0_0⟩:=hB0a i0 _ he0
   refine BA Ae dR K9 [] fun w11 K10=>?_
   refine BB (g:=gB0) (off:=fB0) (cap:=p0bc) (sz:=1) (k:=i0) (len:=scs.length) (some 36) hlt0 Tryz.underlying40 ?_
   refine Dm 27 gB0 (fB0 + i0 * 1) (.slice aE0_0 e0.length cE0_0) (some 37) (by simpa using Af hr0_ hB0g K10.B 0 _ rfl) ?_
   refine AC dQ K10 [] fun w12 K11=>?_
   refine Ak K11 (args:=[.slice aE0_0 e0.length cE0_0]) (NG aE0_0 e0 cE0_0 w12 (hE0_0.below K11.B) (by exact hlsc _ (List.mem_of_getElem? he0))) fun w13 K12=>?_
   refine AC dP K12 [] fun w14 K13=>?_
   refine AK (!(EL e0)) (fun c15=>?_) (fun c15=>?_)
   ·refine AC lu K13 [] fun w16 K14=>?_
    have hS:(Bl ins scs pas rts)=false:=by rw [hv0,c15] <;> rfl
    exact Aa K14 (0,0) (.bool false) ⟨by rw [hS] <;> rfl,K14.B⟩
   ·refine AC (Ai Uc) K13 [] fun w17 K15=>?_
    refine Ax [(1,.pointer (some ⟨w.heap.size,0,none⟩)),(2,.bool false),(32,.slice (some ⟨gB0,fB0,none⟩) scs.length p0bc),(33,.int .i64 ((scs.length:Int))),(34,.int .i64 (IntKind.i64.wrap ((i0:Int) + 1)))] fun E18=>?_
    have K16:Wk w w17 [⟨w.heap.size,0,[.slice p0aA ins.length p0ac,.slice (some ⟨gB0,fB0,none⟩) scs.length p0bc,.slice p0cA pas.length p0cc,.slice p0dA rts.length p0dc],43,true⟩] [] []:=K15.pk [0] []
    rw [Bf i0 (by omega)]
    refine hagain0 _ _ ⟨i0 + 1,E18,hlt0,rfl,by rw [hv0,c15] <;> rfl,K16⟩ ?_
    show scs.length - AQ (.int .i64 ((i0 + 1:Nat):Int)) < scs.length - AQ (.int .i64 (i0:Int))
    simp only [AQ]
    omega
  ·have hie0:i0=scs.length:=by have:=of_decide_eq_false c10; omega
   rw [hie0,List.drop_length,Kt] at hv0
   refine AC Ub K9 [(0,3)] fun w19 K17=>?_
   have K18:Wk w w19 [⟨w.heap.size,0,[.slice p0aA ins.length p0ac,.slice p0bA scs.length p0bc,.slice p0cA pas.length p0cc,.slice p0dA rts.length p0dc],43,true⟩] [] []:=K17.pk [0] []
   have hv1:(Bl ins scs pas rts)=CS ins scs pas rts rts 0:=by rw [hv0] <;> rfl
   refine Ax [(1,.pointer (some ⟨w.heap.size,0,none⟩)),(2,.bool false),(43,.slice p0dA rts.length p0dc),(44,.int .i64 ((rts.length:Int))),(45,.int .i64 (((0:Nat):Int)))] fun E20=>?_
   refine Bj (by kernel_rfl) (fun E wx1=>∃ (i1:Nat) (E0:Nat→Value),i1≤rts.length∧E=CX E0 [(1,.pointer (some ⟨w.heap.size,0,none⟩)),(2,.bool false),(43,.slice p0dA rts.length p0dc),(44,.int .i64 ((rts.length:Int))),(45,.int .i64 ((i1:Int)))]∧(Bl ins scs pas rts)=CS ins scs pas rts (List.drop i1 rts) i1∧Wk w wx1 [⟨w.heap.size,0,[.slice p0aA ins.length p0ac,.slice p0bA scs.length p0bc,.slice p0cA pas.length p0cc,.slice p0dA rts.length p0dc],43,true⟩] [] []) (fun E _=>rts.length - AQ (E 45)) ⟨0,E20,Nat.zero_le _,rfl,hv1,K18⟩ ?_
   clear hv1
   rintro E wx1 ⟨i1,E0,hi1,rfl,hv1,K19⟩ hagain1
   refine AC L8 K19 [] fun w22 K20=>?_
   refine AK (decide ((i1:Int) < (rts.length:Int))) (fun c23=>?_) (fun c23=>?_)
   ·have hlt1:i1 < rts.length:=by have:=of_decide_eq_true c23; omega
    obtain ⟨e1,he1⟩:∃ e,rts[i1]?=some e:=⟨_,List.getElem?_eq_getElem hlt1⟩
    rw [KL i1 e1 he1] at hv1
    obtain ⟨gB0,fB0,rfl,hB0g,hB0a⟩:=h_rts.all (by omega)
    obtain ⟨aE0_0,cE0_0,hr0_,hE0_0⟩:=hB0a i1 _ he1
    refine BA Ae Wa K20 [] fun w24 K21=>?_
    refine BB (g:=gB0) (off:=fB0) (cap:=p0dc) (sz:=6) (k:=i1) (len:=rts.length) (some 48) hlt1 Tryz.underlying41 ?_
    refine Bc 49 gB0 (fB0 + i1 * 6) [.string ⟨⟨e1.1⟩⟩,.bool (e1.2.1),.int .i64 e1.2.2.1,.int .i64 e1.2.2.2.1,.int .i64 e1.2.2.2.2.1,.slice aE0_0 e1.2.2.2.2.2.length cE0_0] (some 49) (Af hr0_ hB0g K21.B) ?_
    refine Bw 12 WZ [⟨w.heap.size,0,[.slice p0aA ins.length p0ac,.slice p0bA scs.length p0bc,.slice p0cA pas.length p0cc,.slice (some ⟨gB0,fB0,none⟩) rts.length p0dc],43,true⟩,⟨w24.heap.size,0,[.string ⟨⟨e1.1⟩⟩,.bool (e1.2.1),.int .i64 e1.2.2.1,.int .i64 e1.2.2.2.1,.int .i64 e1.2.2.2.2.1,.slice aE0_0 e1.2.2.2.2.2.length cE0_0],49,true⟩] K21 [(1,0)] fun w25 K22=>?_
    refine Aj K22 [(1,1,5),(5,1,0)] [⟨6,[(55,.agg ⟨[.string ⟨⟨e1.1⟩⟩,.bool (e1.2.1),.int .i64 e1.2.2.1,.int .i64 e1.2.2.2.1,.int .i64 e1.2.2.2.2.1,.slice aE0_0 e1.2.2.2.2.2.length cE0_0]⟩)],.bool (Dq e1.2.1 e1.2.2.1 e1.2.2.2.1 e1.2.2.2.2.1),(!(decide (4096 < (e1.2.2.2.2.2.length:Int)))) && (true)⟩] K22.G (fun sp hsp=>?_) fun w26 E26 K23=>?_
    ·rw [List.mem_singleton.1 hsp]
     exact AR 24 [.tmp 55] [.agg ⟨[.string ⟨⟨e1.1⟩⟩,.bool (e1.2.1),.int .i64 e1.2.2.1,.int .i64 e1.2.2.2.1,.int .i64 e1.2.2.2.2.1,.slice aE0_0 e1.2.2.2.2.2.length cE0_0]⟩] (fun _=>by kernel_rfl) fun hc u hu=>AP hu (Kl e1.1 e1.2.1 e1.2.2.1 e1.2.2.2.1 e1.2.2.2.2.1 aE0_0 e1.2.2.2.2.2.length cE0_0 u)
    refine AC Pq K23 [] fun w27 K24=>?_
    refine AK (cond (decide (4096 < (e1.2.2.2.2.2.length:Int))) (true) (!(Dq e1.2.1 e1.2.2.1 e1.2.2.2.1 e1.2.2.2.2.1))) (fun c28=>?_) (fun c28=>?_)
    ·refine AC jS K24 [] fun w29 K25=>?_
     have hS:(Bl ins scs pas rts)=false:=by rw [hv1,c28] <;> rfl
     exact Aa K25 (0,0) (.bool false) ⟨by rw [hS] <;> rfl,K25.B⟩
    ·refine AC Pp K24 [(1,5)] fun w30 K26=>?_
     have K27:Wk w w30 [⟨w.heap.size,0,[.slice p0aA ins.length p0ac,.slice p0bA scs.length p0bc,.slice p0cA pas.length p0cc,.slice (some ⟨gB0,fB0,none⟩) rts.length p0dc],43,true⟩,⟨w24.heap.size,0,[.string ⟨⟨e1.1⟩⟩,.bool (e1.2.1),.int .i64 e1.2.2.1,.int .i64 e1.2.2.2.1,.int .i64 e1.2.2.2.2.1,.slice aE0_0 e1.2.2.2.2.2.length cE0_0],49,true⟩] [] []:=K26.pk [0,1] []
     have hli2:e1.2.2.2.2.2.length≤4294967296:=hlrt _ (List.mem_of_getElem? he1)
     have hv2:(Bl ins scs pas rts)=CR ins scs pas rts i1 (cond (!((CL e1.2.2.2.2.2))) (false) (CS ins scs pas rts (List.drop (i1 + 1) rts) (i1 + 1))) e1.2.2.2.2.2 0:=by rw [hv1,c28] <;> rfl
     refine Ax [(1,.pointer (some ⟨w.heap.size,0,none⟩)),(2,.bool false),(5,.int .i64 ((i1:Int))),(6,.pointer (some ⟨w24.heap.size,0,none⟩)),(43,.slice (some ⟨gB0,fB0,none⟩) rts.length p0dc),(44,.int .i64 ((rts.length:Int))),(45,.int .i64 ((i1:Int))),(60,.slice aE0_0 e1.2.2.2.2.2.length cE0_0),(61,.int .i64 ((e1.2.2.2.2.2.length:Int))),(62,.int .i64 (((0:Nat):Int)))] fun E31=>?_
     refine Bj (by kernel_rfl) (fun E wx2=>∃ (i2:Nat) (E0:Nat→Value),i2≤e1.2.2.2.2.2.length∧E=CX E0 [(1,.pointer (some ⟨w.heap.size,0,none⟩)),(2,.bool false),(5,.int .i64 ((i1:Int))),(6,.pointer (some ⟨w24.heap.size,0,none⟩)),(43,.slice (some ⟨gB0,fB0,none⟩) rts.length p0dc),(44,.int .i64 ((rts.length:Int))),(45,.int .i64 ((i1:Int))),(60,.slice aE0_0 e1.2.2.2.2.2.length cE0_0),(61,.int .i64 ((e1.2.2.2.2.2.length:Int))),(62,.int .i64 ((i2:Int)))]∧(Bl ins scs pas rts)=CR ins scs pas rts i1 (cond (!((CL e1.2.2.2.2.2))) (false) (CS ins scs pas rts (List.drop (i1 + 1) rts) (i1 + 1))) (List.drop i2 e1.2.2.2.2.2) i2∧Ir e1.2.2.2.2.2 i2∧Wk w wx2 [⟨w.heap.size,0,[.slice p0aA ins.length p0ac,.slice p0bA scs.length p0bc,.slice p0cA pas.length p0cc,.slice (some ⟨gB0,fB0,none⟩) rts.length p0dc],43,true⟩,⟨w24.heap.size,0,[.string ⟨⟨e1.1⟩⟩,.bool (e1.2.1),.int .i64 e1.2.2.1,.int .i64 e1.2.2.2.1,.int .i64 e1.2.2.2.2.1,.slice aE0_0 e1.2.2.2.2.2.length cE0_0],49,true⟩] [] []) (fun E _=>e1.2.2.2.2.2.length - AQ (E 62)) ⟨0,E31,Nat.zero_le _,rfl,hv2,by exact Rj _,K27⟩ ?_
     clear hv2
     rintro E wx2 ⟨i2,E0,hi2,rfl,hv2,hI2,K28⟩ hagain2
     refine AC L7 K28 [] fun w33 K29=>?_
     refine AK (decide ((i2:Int) < (e1.2.2.2.2.2.length:Int))) (fun c34=>?_) (fun c34=>?_)
     ·have hlt2:i2 < e1.2.2.2.2.2.length:=by have:=of_decide_eq_true c34; omega
      obtain ⟨e2,he2⟩:∃ e,e1.2.2.2.2.2[i2]?=some e:=⟨_,List.getElem?_eq_getElem hlt2⟩
      rw [KK i2 e2 he2] at hv2
      obtain ⟨gB1,fB1,rfl,hB1g,hB1a⟩:=hE0_0.all (by omega)
      have hr1_:=hB1a i2 _ he2
      refine BA Ae WY K29 [] fun w35 K30=>?_
      refine BB (g:=gB1) (off:=fB1) (cap:=cE0_0) (sz:=6) (k:=i2) (len:=e1.2.2.2.2.2.length) (some 65) hlt2 Tryz.underlying47 ?_
      refine Bc 53 gB1 (fB1 + i2 * 6) [.int .i64 e2.1,.int .i64 e2.2.1,.int .i64 e2.2.2.1,.int .i64 e2.2.2.2.1,.int .i64 e2.2.2.2.2.1,.int .i64 e2.2.2.2.2.2] (some 66) (Af hr1_ hB1g K30.B) ?_
      refine Bw 17 WX [⟨w.heap.size,0,[.slice p0aA ins.length p0ac,.slice p0bA scs.length p0bc,.slice p0cA pas.length p0cc,.slice (some ⟨gB0,fB0,none⟩) rts.length p0dc],43,true⟩,⟨w24.heap.size,0,[.string ⟨⟨e1.1⟩⟩,.bool (e1.2.1),.int .i64 e1.2.2.1,.int .i64 e1.2.2.2.1,.int .i64 e1.2.2.2.2.1,.slice (some ⟨gB1,fB1,none⟩) e1.2.2.2.2.2.length cE0_0],49,true⟩,⟨w35.heap.size,0,[.int .i64 e2.1,.int .i64 e2.2.1,.int .i64 e2.2.2.1,.int .i64 e2.2.2.2.1,.int .i64 e2.2.2.2.2.1,.int .i64 e2.2.2.2.2.2],53,true⟩] K30 [(2,0)] fun w36 K31=>?_
      refine Aj K31 [(0,2,0),(4,0,0),(7,2,0)] [⟨1,[(67,.agg ⟨[.int .i64 e2.1,.int .i64 e2.2.1,.int .i64 e2.2.2.1,.int .i64 e2.2.2.2.1,.int .i64 e2.2.2.2.2.1,.int .i64 e2.2.2.2.2.2]⟩)],.bool (C6 e2.1 e2.2.2.1 e2.2.2.2.1 e2.2.2.2.2.1 e2.2.2.2.2.2),true⟩,⟨8,[(71,.agg ⟨[.slice p0aA ins.length p0ac,.slice p0bA scs.length p0bc,.slice p0cA pas.length p0cc,.slice (some ⟨gB0,fB0,none⟩) rts.length p0dc]⟩),(72,.int .i64 ((i1:Int))),(73,.int .i64 ((i2:Int))),(74,.agg ⟨[.int .i64 e2.1,.int .i64 e2.2.1,.int .i64 e2.2.2.1,.int .i64 e2.2.2.2.1,.int .i64 e2.2.2.2.2.1,.int .i64 e2.2.2.2.2.2]⟩)],.bool ((CJ ins.length scs.length pas.length rts i1 (i2:Int) e2.1 e2.2.1)),(!(!(C6 e2.1 e2.2.2.1 e2.2.2.2.1 e2.2.2.2.2.1 e2.2.2.2.2.2))) && (true)⟩] K31.G (fun sp hsp=>?_) fun w38 E38 K32=>?_
      ·rcases List.mem_cons.1 hsp with rfl | hsp
       ·exact AR 25 [.tmp 67] [.agg ⟨[.int .i64 e2.1,.int .i64 e2.2.1,.int .i64 e2.2.2.1,.int .i64 e2.2.2.2.1,.int .i64 e2.2.2.2.2.1,.int .i64 e2.2.2.2.2.2]⟩] (fun _=>by kernel_rfl) fun hc u hu=>AP hu (Lo e2.1 e2.2.1 e2.2.2.1 e2.2.2.2.1 e2.2.2.2.2.1 e2.2.2.2.2.2 u)
       obtain rfl:=List.mem_singleton.1 hsp
       exact AR 26 [.tmp 71,.tmp 72,.tmp 73,.tmp 74] [.agg ⟨[.slice p0aA ins.length p0ac,.slice p0bA scs.length p0bc,.slice p0cA pas.length p0cc,.slice (some ⟨gB0,fB0,none⟩) rts.length p0dc]⟩,.int .i64 ((i1:Int)),.int .i64 ((i2:Int)),.agg ⟨[.int .i64 e2.1,.int .i64 e2.2.1,.int .i64 e2.2.2.1,.int .i64 e2.2.2.2.1,.int .i64 e2.2.2.2.2.1,.int .i64 e2.2.2.2.2.2]⟩] (fun _=>by kernel_rfl) fun hc u hu=>AP hu (O9 p0aA ins.length p0ac p0bA scs.length p0bc p0cA pas.length p0cc (some ⟨gB0,fB0,none⟩) rts p0dc i1 (i2:Int) e2.1 e2.2.1 e2.2.2.1 e2.2.2.2.1 e2.2.2.2.2.1 e2.2.2.2.2.2 u (h_rts.below (K31.B.trans (hu.mono K31.B.size))) (by first | assumption | omega | (simp <;> omega)) hlt1)
      refine AC WW K32 [] fun w39 K33=>?_
      refine AK (cond (!(C6 e2.1 e2.2.2.1 e2.2.2.2.1 e2.2.2.2.2.1 e2.2.2.2.2.2)) (true) (!((CJ ins.length scs.length pas.length rts i1 (i2:Int) e2.1 e2.2.1)))) (fun c40=>?_) (fun c40=>?_)
      ·refine AC jR K33 [] fun w41 K34=>?_
       have hS:(Bl ins scs pas rts)=false:=by rw [hv2,c40] <;> rfl
       exact Aa K34 (0,0) (.bool false) ⟨by rw [hS] <;> rfl,K34.B⟩
      ·refine AC (Ai Pp) K33 [] fun w42 K35=>?_
       refine Ax [(1,.pointer (some ⟨w.heap.size,0,none⟩)),(2,.bool false),(5,.int .i64 ((i1:Int))),(6,.pointer (some ⟨w24.heap.size,0,none⟩)),(43,.slice (some ⟨gB0,fB0,none⟩) rts.length p0dc),(44,.int .i64 ((rts.length:Int))),(45,.int .i64 ((i1:Int))),(60,.slice (some ⟨gB1,fB1,none⟩) e1.2.2.2.2.2.length cE0_0),(61,.int .i64 ((e1.2.2.2.2.2.length:Int))),(62,.int .i64 (IntKind.i64.wrap ((i2:Int) + 1)))] fun E43=>?_
       have K36:Wk w w42 [⟨w.heap.size,0,[.slice p0aA ins.length p0ac,.slice p0bA scs.length p0bc,.slice p0cA pas.length p0cc,.slice (some ⟨gB0,fB0,none⟩) rts.length p0dc],43,true⟩,⟨w24.heap.size,0,[.string ⟨⟨e1.1⟩⟩,.bool (e1.2.1),.int .i64 e1.2.2.1,.int .i64 e1.2.2.2.1,.int .i64 e1.2.2.2.2.1,.slice (some ⟨gB1,fB1,none⟩) e1.2.2.2.2.2.length cE0_0],49,true⟩] [] []:=K35.pk [0,1] []
       rw [Bf i2 (by omega)]
       refine hagain2 _ _ ⟨i2 + 1,E43,hlt2,rfl,by rw [hv2,c40] <;> rfl,by exact Qk hI2 he2 he1 (by assumption),K36⟩ ?_
       show e1.2.2.2.2.2.length - AQ (.int .i64 ((i2 + 1:Nat):Int)) < e1.2.2.2.2.2.length - AQ (.int .i64 (i2:Int))
       simp only [AQ]
       omega
     ·have hie2:i2=e1.2.2.2.2.2.length:=by have:=of_decide_eq_false c34; omega
      rw [hie2,List.drop_length,Kr] at hv2
      refine AC WV K29 [(1,5)] fun w44 K37=>?_
      refine BX (RO aE0_0 e1.2.2.2.2.2 cE0_0 w44 (hE0_0.below K37.B) (by first | assumption | omega | (simp <;> omega)) (Rk hI2 hie2)) fun en w46 hh=>?_
      obtain ⟨rfl,b46⟩:=hh
      refine ⟨_,rfl,?_⟩
      have K38:=K37.below b46
      refine AC WU K38 [] fun w47 K39=>?_
      refine AK (!((CL e1.2.2.2.2.2))) (fun c48=>?_) (fun c48=>?_)
      ·refine AC jQ K39 [] fun w49 K40=>?_
       have hS:(Bl ins scs pas rts)=false:=by rw [hv2,c48] <;> rfl
       exact Aa K40 (0,0) (.bool false) ⟨by rw [hS] <;> rfl,K40.B⟩
      ·refine AC (Ai Ub) K39 [] fun w50 K41=>?_
       refine Ax [(1,.pointer (some ⟨w.heap.size,0,none⟩)),(2,.bool false),(43,.slice (some ⟨gB0,fB0,none⟩) rts.length p0dc),(44,.int .i64 ((rts.length:Int))),(45,.int .i64 (IntKind.i64.wrap ((i1:Int) + 1)))] fun E51=>?_
       have K42:Wk w w50 [⟨w.heap.size,0,[.slice p0aA ins.length p0ac,.slice p0bA scs.length p0bc,.slice p0cA pas.length p0cc,.slice (some ⟨gB0,fB0,none⟩) rts.length p0dc],43,true⟩] [] []:=K41.pk [0] []
       rw [Bf i1 (by omega)]
       refine hagain1 _ _ ⟨i1 + 1,E51,hlt1,rfl,by rw [hv2,c48] <;> rfl,K42⟩ ?_
       show rts.length - AQ (.int .i64 ((i1 + 1:Nat):Int)) < rts.length - AQ (.int .i64 (i1:Int))
       simp only [AQ]
       omega
   ·have hie1:i1=rts.length:=by have:=of_decide_eq_false c23; omega
    rw [hie1,List.drop_length,Ks] at hv1
    refine AC jP K20 [] fun w52 K43=>?_
    have hS:(Bl ins scs pas rts)=true:=by rw [hv1] <;> rfl
    exact Aa K43 (0,0) (.bool true) ⟨by rw [hS] <;> rfl,K43.B⟩
end
end Go.Proofs.YtmcpjkcggfmcmaaGreatDoor

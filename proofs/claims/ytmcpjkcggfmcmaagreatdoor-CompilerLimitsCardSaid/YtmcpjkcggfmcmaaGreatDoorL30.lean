/-
  Part 30 of a proof: contracts of functions.
-/
import Derived.Test.YtmcpjkcggfmcmaaGreatDoorL29
set_option linter.all false
namespace Go.Proofs.YtmcpjkcggfmcmaaGreatDoor
noncomputable section
open Go.RowKit
set_option maxRecDepth 100000
set_option maxHeartbeats 1000000
attribute [local irreducible] BD Bb AF AG AL A4 Ai AO BO CV Di CC Bp At Fr
section
variable (Cg:Ex→Prop)
def Db (f:Ex→Nat→List AJ) (mi:List (List UInt8×Int)) (ms:List (List UInt8×Int)) (mp:List (List UInt8×Int)) (mr:List (List UInt8×Int)) (x:Ex):List (Ex)→List AJ→List AJ
 | [],a0_0=>a0_0++[((Ah mi ms mp mr x))]
 | e0 :: tl,a0_0=>Db f mi ms mp mr x tl (AE f a0_0 e0)
theorem Ni {f:Ex→Nat→List AJ} {mi:List (List UInt8×Int)} {ms:List (List UInt8×Int)} {mp:List (List UInt8×Int)} {mr:List (List UInt8×Int)} {x:Ex} {a0_0:List AJ}:Db f mi ms mp mr x [] a0_0=(a0_0++[((Ah mi ms mp mr x))]):=by rw [Db]
theorem M8 {f:Ex→Nat→List AJ} {mi:List (List UInt8×Int)} {ms:List (List UInt8×Int)} {mp:List (List UInt8×Int)} {mr:List (List UInt8×Int)} {x:Ex} {a0_0:List AJ} {es:List (Ex)} (i:Nat) (e0:Ex) (hi:es[i]?=some e0):Db f mi ms mp mr x (es.drop i) a0_0=(Db f mi ms mp mr x (es.drop (i + 1)) (AE f a0_0 e0)):=by
 have hl:i < es.length:=(List.getElem?_eq_some_iff.1 hi).1
 have he:es[i]=e0:=(List.getElem?_eq_some_iff.1 hi).2
 rw [← List.getElem_cons_drop hl,Db] <;> (try rw [he])
def D7 (f:Ex→Nat→List AJ) (mi:List (List UInt8×Int)) (ms:List (List UInt8×Int)) (mp:List (List UInt8×Int)) (mr:List (List UInt8×Int)) (l:List AJ) (x:Ex):List AJ:=cond (x.op == 18) ((AE (Cb f) l x)) (cond (x.op == 12) ((AE (Cb f) l x)) (cond (x.op == 13) ((AE (Cb f) l x)) (Db f mi ms mp mr x x.ks l)))
noncomputable def SX:Code:=Tryz.f22.body.getD .skip
def VH:List Item:=AB 60 ([.code SX])
def eH:List Item:=AB 60 (AG VH)
def eG:List Item:=AB 60 (AG eH)
def mX:List Item:=AB 60 (AF eG)
def VG:List Item:=AB 60 (AL VH)
def eF:List Item:=AB 60 (AG VG)
def eE:List Item:=AB 60 (AG eF)
def mW:List Item:=AB 60 (AF eE)
def VF:List Item:=AB 60 (AL VG)
def eD:List Item:=AB 60 (AG VF)
def j6:List Item:=AB 60 (AF eD)
def QG:List Item:=AB 60 (AL VF)
def MN:List Item:=AB 60 (A4 QG)
def W6:List Item:=AB (As Ae 90 (AG MN)) (AG MN)
def j5:List Item:=AB 60 (AF (AF W6))
def QF:List Item:=AB 60 (AL MN)
def QE:List Item:=AB (As BK 90 (AF QF)) (AF QF)
def j4:List Item:=AB 60 (AF QE)
theorem Ry (L:List Th) (f:Ex→Nat→List AJ) (p0aaA:Option Addr) (p0aan:Nat) (p0aac:Nat) (p0abA:Option Addr) (p0abn:Nat) (p0abc:Nat) (p0acA:Option Addr) (p0acn:Nat) (p0acc:Nat) (p0adA:Option Addr) (p0adn:Nat) (p0adc:Nat) (bi:Nat) (mi:List (List UInt8×Int)) (bs:Nat) (ms:List (List UInt8×Int)) (bp:Nat) (mp:List (List UInt8×Int)) (br:Nat) (mr:List (List UInt8×Int)) (p1A:Option Addr) (l:List AJ) (p1c:Nat) (x:Ex) (p2A0:Option Addr) (p2c0:Nat) (w we:World) (hm_mi:AZ.at BC bi mi w) (hm_ms:AZ.at BC bs ms w) (hm_mp:AZ.at BC bp mp w) (hm_mr:AZ.at BC br mr w) (h_x0:rowsEx w p2A0 x.ks) (hih:∀ (L:List Th) (p1A:Option Addr) (l:List AJ) (p1c:Nat) (x':Ex) (p2A0:Option Addr) (p2c0:Nat) (we:World),rowsEx w p2A0 x'.ks→Cg x'→l.length + 4 * nE x'≤400000000→Below w.heap.size w we→AY w.heap.size we ([CM p1A p1c l]++L)→Calls Tryz.prog 22 ([.agg ⟨[.slice p0aaA p0aan p0aac,.slice p0abA p0abn p0abc,.slice p0acA p0acn p0acc,.slice p0adA p0adn p0adc,.map (some bi),.map (some bs),.map (some bp),.map (some br)]⟩,.slice p1A l.length p1c,.agg ⟨Bo x' p2A0 p2c0⟩]:List Value).toArray we fun e w'=>∃ (rA0:Option Addr) (rc0:Nat),e=.returned (.slice rA0 (AE f l x').length rc0)∧Below w.heap.size w w'∧AY w.heap.size w' ([CM rA0 rc0 (AE f l x')]++L)) (hbr:∀ (L:List Th) (p1A:Option Addr) (l:List AJ) (p1c:Nat) (x':Ex) (p2A0:Option Addr) (p2c0:Nat) (we:World),rowsEx w p2A0 x'.ks→x'=x→((x.op == 18)=true∨(x.op == 12)=true∨(x.op == 13)=true)→l.length + 4 * nE x'≤400000000→Below w.heap.size w we→AY w.heap.size we ([CM p1A p1c l]++L)→Calls Tryz.prog 54 ([.agg ⟨[.slice p0aaA p0aan p0aac,.slice p0abA p0abn p0abc,.slice p0acA p0acn p0acc,.slice p0adA p0adn p0adc,.map (some bi),.map (some bs),.map (some bp),.map (some br)]⟩,.slice p1A l.length p1c,.agg ⟨Bo x' p2A0 p2c0⟩]:List Value).toArray we fun e w'=>∃ (rA0:Option Addr) (rc0:Nat),e=.returned (.slice rA0 (AE (Cb f) l x').length rc0)∧Below w.heap.size w w'∧AY w.heap.size w' ([CM rA0 rc0 (AE (Cb f) l x')]++L)) (hlim:DT x) (hgood:∀ k∈x.ks,Cg k) (hfl:∀ k n,Cg k→(f k n).length≤4 * nE k) (hb:l.length + 4 * nE x≤400000000) (B:Below w.heap.size w we) (H:AY w.heap.size we ([(CM p1A p1c l)]++L)):Calls Tryz.prog 22 ([.agg ⟨[.slice p0aaA p0aan p0aac,.slice p0abA p0abn p0abc,.slice p0acA p0acn p0acc,.slice p0adA p0adn p0adc,.map (some bi),.map (some bs),.map (some bp),.map (some br)]⟩,.slice p1A l.length p1c,.agg ⟨[.int .i64 x.op,.int .i64 x.num,.int .i64 x.den,.int .i64 x.mu,.int .i64 x.hu,.int .i64 x.du,.string ⟨⟨x.nm⟩⟩,.int .i64 x.cnt,.int .i64 x.md,.slice p2A0 x.ks.length p2c0]⟩]:List Value).toArray we fun e w'=>∃ (rA0:Option Addr) (rc0:Nat),e=.returned (.slice rA0 ((D7 f mi ms mp mr l x).length) rc0)∧Below w.heap.size w w'∧AY w.heap.size w' ([CM rA0 rc0 (D7 f mi ms mp mr l x)]++L):=by
 refine Ab (fn:=Tryz.f22) (c:=SX) (n:=37) ?_
 have K1:Wk w we [] [(CM p1A p1c l)] L:=⟨B,H⟩
 clear B H
 have hlk:=Qw hlim
 refine Bv VH [⟨we.heap.size,0,[.slice p0aaA p0aan p0aac,.slice p0abA p0abn p0abc,.slice p0acA p0acn p0acc,.slice p0adA p0adn p0adc,.map (some bi),.map (some bs),.map (some bp),.map (some br)],75,true⟩,⟨we.heap.size + 1,0,(Bo x p2A0 p2c0),32,true⟩] K1 [(1,0)] fun w1 K2=>?_
 refine AK (x.op == 18) (fun c2=>?_) (fun c2=>?_)
 ·refine AC eH K2 [] fun w3 K3=>?_
  refine AK (x.op == 18) (fun _=>?_) (fun h=>nomatch h.symm.trans c2)
  refine AC eG K3 [(0,0),(1,0)] fun w5 K4=>?_
  have Kf:=(K4.pickL (L':=[(CM p1A p1c l)]++[]) [0] rfl (by decide)).front
  refine BX (args:=[.agg ⟨[.slice p0aaA p0aan p0aac,.slice p0abA p0abn p0abc,.slice p0acA p0acn p0acc,.slice p0adA p0adn p0adc,.map (some bi),.map (some bs),.map (some bp),.map (some br)]⟩,.slice p1A l.length p1c,.agg ⟨[.int .i64 x.op,.int .i64 x.num,.int .i64 x.den,.int .i64 x.mu,.int .i64 x.hu,.int .i64 x.du,.string ⟨⟨x.nm⟩⟩,.int .i64 x.cnt,.int .i64 x.md,.slice p2A0 x.ks.length p2c0]⟩]) (hbr _ p1A l p1c x p2A0 p2c0 w5 h_x0 rfl (by first | exact .inl (by assumption) | exact .inr (.inl (by assumption)) | exact .inr (.inr (by assumption))) hb K4.B Kf) fun en w7 hh=>?_
  obtain ⟨A6_0,c6_0,rfl,b7,Hn⟩:=hh
  refine ⟨_,rfl,?_⟩
  have K5:=Wk.unfront b7 Hn
  refine AC mX K5 [] fun w8 K6=>?_
  have hS:(D7 f mi ms mp mr l x)=(AE (Cb f) l x):=by unfold D7; rw [c2] <;> rfl
  exact Aa K6 (0,0) (.slice A6_0 (((AE (Cb f) l x)).length) c6_0) ⟨A6_0,c6_0,by rw [hS] <;> rfl,K6.B,by rw [hS]; exact K6.own [0] rfl (by decide)⟩
 ·refine AC VG K2 [] fun w9 K7=>?_
  refine AK (x.op == 12) (fun c10=>?_) (fun c10=>?_)
  ·refine AC eF K7 [] fun w11 K8=>?_
   refine AK (x.op == 12) (fun _=>?_) (fun h=>nomatch h.symm.trans c10)
   refine AC eE K8 [(0,0),(1,0)] fun w13 K9=>?_
   have Kf:=(K9.pickL (L':=[(CM p1A p1c l)]++[]) [0] rfl (by decide)).front
   refine BX (args:=[.agg ⟨[.slice p0aaA p0aan p0aac,.slice p0abA p0abn p0abc,.slice p0acA p0acn p0acc,.slice p0adA p0adn p0adc,.map (some bi),.map (some bs),.map (some bp),.map (some br)]⟩,.slice p1A l.length p1c,.agg ⟨[.int .i64 x.op,.int .i64 x.num,.int .i64 x.den,.int .i64 x.mu,.int .i64 x.hu,.int .i64 x.du,.string ⟨⟨x.nm⟩⟩,.int .i64 x.cnt,.int .i64 x.md,.slice p2A0 x.ks.length p2c0]⟩]) (hbr _ p1A l p1c x p2A0 p2c0 w13 h_x0 rfl (by first | exact .inl (by assumption) | exact .inr (.inl (by assumption)) | exact .inr (.inr (by assumption))) hb K9.B Kf) fun en w15 hh=>?_
   obtain ⟨A14_0,c14_0,rfl,b15,Hn⟩:=hh
   refine ⟨_,rfl,?_⟩
   have K10:=Wk.unfront b15 Hn
   refine AC mW K10 [] fun w16 K11=>?_
   have hS:(D7 f mi ms mp mr l x)=(AE (Cb f) l x):=by unfold D7; rw [c2,c10] <;> rfl
   exact Aa K11 (0,0) (.slice A14_0 (((AE (Cb f) l x)).length) c14_0) ⟨A14_0,c14_0,by rw [hS] <;> rfl,K11.B,by rw [hS]; exact K11.own [0] rfl (by decide)⟩
  ·refine AC VF K7 [] fun w17 K12=>?_
   refine AK (x.op == 13) (fun c18=>?_) (fun c18=>?_)
   ·refine AC eD K12 [(0,0),(1,0)] fun w19 K13=>?_
    have Kf:=(K13.pickL (L':=[(CM p1A p1c l)]++[]) [0] rfl (by decide)).front
    refine BX (args:=[.agg ⟨[.slice p0aaA p0aan p0aac,.slice p0abA p0abn p0abc,.slice p0acA p0acn p0acc,.slice p0adA p0adn p0adc,.map (some bi),.map (some bs),.map (some bp),.map (some br)]⟩,.slice p1A l.length p1c,.agg ⟨[.int .i64 x.op,.int .i64 x.num,.int .i64 x.den,.int .i64 x.mu,.int .i64 x.hu,.int .i64 x.du,.string ⟨⟨x.nm⟩⟩,.int .i64 x.cnt,.int .i64 x.md,.slice p2A0 x.ks.length p2c0]⟩]) (hbr _ p1A l p1c x p2A0 p2c0 w19 h_x0 rfl (by first | exact .inl (by assumption) | exact .inr (.inl (by assumption)) | exact .inr (.inr (by assumption))) hb K13.B Kf) fun en w21 hh=>?_
    obtain ⟨A20_0,c20_0,rfl,b21,Hn⟩:=hh
    refine ⟨_,rfl,?_⟩
    have K14:=Wk.unfront b21 Hn
    refine AC j6 K14 [] fun w22 K15=>?_
    have hS:(D7 f mi ms mp mr l x)=(AE (Cb f) l x):=by unfold D7; rw [c2,c10,c18] <;> rfl
    exact Aa K15 (0,0) (.slice A20_0 (((AE (Cb f) l x)).length) c20_0) ⟨A20_0,c20_0,by rw [hS] <;> rfl,K15.B,by rw [hS]; exact K15.own [0] rfl (by decide)⟩
   ·refine AC QG K12 [(1,9)] fun w23 K16=>?_
    have K17:Wk w w23 [⟨we.heap.size,0,[.slice p0aaA p0aan p0aac,.slice p0abA p0abn p0abc,.slice p0acA p0acn p0acc,.slice p0adA p0adn p0adc,.map (some bi),.map (some bs),.map (some bp),.map (some br)],75,true⟩,⟨we.heap.size + 1,0,(Bo x p2A0 p2c0),32,true⟩] [(CM p1A p1c l)] L:=K16.pk [0,1] [0]
    have hv0:(D7 f mi ms mp mr l x)=Db f mi ms mp mr x x.ks l:=by unfold D7; rw [c2,c10,c18] <;> rfl
    refine Ax [(1,.slice p1A l.length p1c),(3,.pointer (some ⟨we.heap.size,0,none⟩)),(5,.pointer (some ⟨we.heap.size + 1,0,none⟩)),(6,.slice none 0 0),(20,.slice p2A0 x.ks.length p2c0),(21,.int .i64 ((x.ks.length:Int))),(22,.int .i64 (((0:Nat):Int)))] fun E24=>?_
    refine Bj (by kernel_rfl) (fun E wx0=>∃ (i0:Nat) (a0_0:List AJ) (a0_0A:Option Addr) (a0_0c:Nat) (E0:Nat→Value),i0≤x.ks.length∧E=CX E0 [(1,.slice a0_0A a0_0.length a0_0c),(3,.pointer (some ⟨we.heap.size,0,none⟩)),(5,.pointer (some ⟨we.heap.size + 1,0,none⟩)),(6,.slice none 0 0),(20,.slice p2A0 x.ks.length p2c0),(21,.int .i64 ((x.ks.length:Int))),(22,.int .i64 ((i0:Int)))]∧(D7 f mi ms mp mr l x)=Db f mi ms mp mr x (List.drop i0 x.ks) a0_0∧a0_0.length + 4 * FA (List.drop i0 x.ks) + 4≤400000000∧Wk w wx0 [⟨we.heap.size,0,[.slice p0aaA p0aan p0aac,.slice p0abA p0abn p0abc,.slice p0acA p0acn p0acc,.slice p0adA p0adn p0adc,.map (some bi),.map (some bs),.map (some bp),.map (some br)],75,true⟩,⟨we.heap.size + 1,0,(Bo x p2A0 p2c0),32,true⟩] [(CM a0_0A a0_0c a0_0)] L) (fun E _=>x.ks.length - AQ (E 22)) ⟨0,l,p1A,p1c,E24,Nat.zero_le _,rfl,hv0,by (rw [Ma] at hb; simp only [List.drop_zero]; omega),K17⟩ ?_
    clear hv0
    rintro E wx0 ⟨i0,a0_0,a0_0A,a0_0c,E0,hi0,rfl,hv0,hI0,K18⟩ hagain0
    refine AC MN K18 [] fun w26 K19=>?_
    refine AK (decide ((i0:Int) < (x.ks.length:Int))) (fun c27=>?_) (fun c27=>?_)
    ·have hlt0:i0 < x.ks.length:=by have:=of_decide_eq_true c27; omega
     obtain ⟨e0,he0⟩:∃ e,x.ks[i0]?=some e:=⟨_,List.getElem?_eq_getElem hlt0⟩
     rw [M8 i0 e0 he0] at hv0
     obtain ⟨gB0,fB0,rfl,hB0g,hB0a⟩:=h_x0.all0 (by omega)
     obtain ⟨aE0_0,cE0_0,hr0_,hE0_0⟩:=hB0a i0 _ he0
     refine BA Ae W6 K19 [] fun w28 K20=>?_
     refine BB (g:=gB0) (off:=fB0) (cap:=p2c0) (sz:=10) (k:=i0) (len:=x.ks.length) (some 24) hlt0 Tryz.underlying30 ?_
     refine Bc 32 gB0 (fB0 + i0 * 10) [.int .i64 e0.op,.int .i64 e0.num,.int .i64 e0.den,.int .i64 e0.mu,.int .i64 e0.hu,.int .i64 e0.du,.string ⟨⟨e0.nm⟩⟩,.int .i64 e0.cnt,.int .i64 e0.md,.slice aE0_0 e0.ks.length cE0_0] (some 25) (Af hr0_ hB0g K20.B) ?_
     refine Bv j5 [⟨we.heap.size,0,[.slice p0aaA p0aan p0aac,.slice p0abA p0abn p0abc,.slice p0acA p0acn p0acc,.slice p0adA p0adn p0adc,.map (some bi),.map (some bs),.map (some bp),.map (some br)],75,true⟩,⟨we.heap.size + 1,0,(Bo x (some ⟨gB0,fB0,none⟩) p2c0),32,true⟩,⟨w28.heap.size,0,(Bo e0 aE0_0 cE0_0),32,true⟩] K20 [(2,0),(0,0),(2,0)] fun w29 K21=>?_
     have Kf:=(K21.pickL (L':=[(CM a0_0A a0_0c a0_0)]++[]) [0] rfl (by decide)).front
     refine BX (args:=[.agg ⟨[.slice p0aaA p0aan p0aac,.slice p0abA p0abn p0abc,.slice p0acA p0acn p0acc,.slice p0adA p0adn p0adc,.map (some bi),.map (some bs),.map (some bp),.map (some br)]⟩,.slice a0_0A a0_0.length a0_0c,.agg ⟨[.int .i64 e0.op,.int .i64 e0.num,.int .i64 e0.den,.int .i64 e0.mu,.int .i64 e0.hu,.int .i64 e0.du,.string ⟨⟨e0.nm⟩⟩,.int .i64 e0.cnt,.int .i64 e0.md,.slice aE0_0 e0.ks.length cE0_0]⟩]) (hih _ a0_0A a0_0 a0_0c e0 aE0_0 cE0_0 w29 hE0_0 (hgood _ (List.mem_of_getElem? he0)) (by rw [Ho he0] at hI0; simp only [FA] at hI0; omega) K21.B Kf) fun en w31 hh=>?_
     obtain ⟨A30_0,c30_0,rfl,b31,Hn⟩:=hh
     refine ⟨_,rfl,?_⟩
     have K22:=Wk.unfront b31 Hn
     have hq0:=Fg hfl a0_0 (k:=e0) (hgood _ (List.mem_of_getElem? he0))
     refine AC (Ai QG) K22 [] fun w32 K23=>?_
     refine Ax [(1,.slice A30_0 ((AE f a0_0 e0).length) c30_0),(3,.pointer (some ⟨we.heap.size,0,none⟩)),(5,.pointer (some ⟨we.heap.size + 1,0,none⟩)),(6,.slice none 0 0),(20,.slice (some ⟨gB0,fB0,none⟩) x.ks.length p2c0),(21,.int .i64 ((x.ks.length:Int))),(22,.int .i64 (IntKind.i64.wrap ((i0:Int) + 1)))] fun E33=>?_
     have K24:Wk w w32 [⟨we.heap.size,0,[.slice p0aaA p0aan p0aac,.slice p0abA p0abn p0abc,.slice p0acA p0acn p0acc,.slice p0adA p0adn p0adc,.map (some bi),.map (some bs),.map (some bp),.map (some br)],75,true⟩,⟨we.heap.size + 1,0,(Bo x (some ⟨gB0,fB0,none⟩) p2c0),32,true⟩] [(CM A30_0 c30_0 (AE f a0_0 e0))] L:=K23.pk [0,1] [0]
     rw [Bf i0 (by omega)]
     refine hagain0 _ _ ⟨i0 + 1,(AE f a0_0 e0),A30_0,c30_0,E33,hlt0,rfl,by rw [hv0] <;> rfl,by (rw [Ho he0] at hI0; simp only [FA] at hI0; omega),K24⟩ ?_
     show x.ks.length - AQ (.int .i64 ((i0 + 1:Nat):Int)) < x.ks.length - AQ (.int .i64 (i0:Int))
     simp only [AQ]
     omega
    ·have hie0:i0=x.ks.length:=by have:=of_decide_eq_false c27; omega
     rw [hie0,List.drop_length,Ni] at hv0
     refine AC QF K19 [(0,0),(1,0)] fun w34 K25=>?_
     refine BX (Mk p0aaA p0aan p0aac p0abA p0abn p0abc p0acA p0acn p0acc p0adA p0adn p0adc bi mi bs ms bp mp br mr x p2A0 p2c0 w34 (AZ.below hm_mi K25.B) (AZ.below hm_ms K25.B) (AZ.below hm_mp K25.B) (AZ.below hm_mr K25.B) (h_x0.below K25.B) hlim) fun en w36 hh=>?_
     obtain ⟨rfl,b36⟩:=hh
     refine ⟨_,rfl,?_⟩
     have K26:=K25.below b36
     refine CA BK QE [⟨we.heap.size,0,[.slice p0aaA p0aan p0aac,.slice p0abA p0abn p0abc,.slice p0acA p0acn p0acc,.slice p0adA p0adn p0adc,.map (some bi),.map (some bs),.map (some bp),.map (some br)],75,true⟩,⟨we.heap.size + 1,0,(Bo x p2A0 p2c0),32,true⟩,⟨w36.heap.size,0,[.int .i64 (((Ah mi ms mp mr x)).1),.int .i64 (((Ah mi ms mp mr x)).2.1),.int .i64 (((Ah mi ms mp mr x)).2.2.1),.int .i64 (((Ah mi ms mp mr x)).2.2.2.1),.int .i64 (((Ah mi ms mp mr x)).2.2.2.2.1),.int .i64 (((Ah mi ms mp mr x)).2.2.2.2.2)],53,true⟩] K26 [] fun w37 K27=>?_
     refine CF K27.H (K27.ix 0) (K27.at 0 rfl) (((Ah mi ms mp mr x))) [.int .i64 (((Ah mi ms mp mr x)).1),.int .i64 (((Ah mi ms mp mr x)).2.1),.int .i64 (((Ah mi ms mp mr x)).2.2.1),.int .i64 (((Ah mi ms mp mr x)).2.2.2.1),.int .i64 (((Ah mi ms mp mr x)).2.2.2.2.1),.int .i64 (((Ah mi ms mp mr x)).2.2.2.2.2)] rfl (w36.heap.size) (K27.ent 2 (by kernel_rfl)) (Ck QE) (by kernel_rfl) (.tmp 31) (.tmp 35) 47 (by kernel_rfl) (by kernel_rfl) (by kernel_rfl) (by decide) (by kernel_rfl) (by kernel_rfl) rfl rfl (by ((try simp only [maxLen,DE,List.length_set,List.length_append,List.length_cons,List.length_nil,List.length_singleton]) <;> omega)) fun A38 c38 w38 Hn b38=>?_
     have K28:=K27.put 0 (by simp) b38 Hn
     refine AC j4 K28 [] fun w39 K29=>?_
     have hS:(D7 f mi ms mp mr l x)=a0_0++[((Ah mi ms mp mr x))]:=by rw [hv0] <;> rfl
     exact Aa K29 (0,0) (.slice A38 ((a0_0++[((Ah mi ms mp mr x))]).length) c38) ⟨A38,c38,by rw [hS] <;> rfl,K29.B,by rw [hS]; exact K29.own [0] rfl (by decide)⟩
end
end
end Go.Proofs.YtmcpjkcggfmcmaaGreatDoor

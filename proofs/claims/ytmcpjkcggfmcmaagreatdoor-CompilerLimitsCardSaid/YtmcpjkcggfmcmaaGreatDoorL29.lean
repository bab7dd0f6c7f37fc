/-
  Part 29 of a proof: contracts of functions.
-/
import Derived.Test.YtmcpjkcggfmcmaaGreatDoorL28
set_option linter.all false
namespace Go.Proofs.YtmcpjkcggfmcmaaGreatDoor
noncomputable section
open Go.RowKit
set_option maxRecDepth 100000
set_option maxHeartbeats 1000000
attribute [local irreducible] BD Bb AF AG AL A4 Ai AO BO CV Di CC Bp At Fr
section
variable (mi ms mp mr:List (List UInt8×Int))
def EW (f:Ex→Nat→List AJ):List Ex→Nat→List AJ
 | [],_=>[]
 | k :: ks,n=>f k n++EW f ks (n + (f k n).length)
def Cb (f:Ex→Nat→List AJ) (x:Ex) (n:Nat):List AJ:=
 let c0:=f (x.ks.getD 0 default) n
 let c1:=cond (x.op == 13) [AX 1] (f (x.ks.getD 1 default) (n + c0.length + 1))
 let j:=n + c0.length + 1 + c1.length
 let c2:=cond (x.op == 12) [AX 0] (cond (x.op == 13) (f (x.ks.getD 1 default) (j + 1)) (f (x.ks.getD 2 default) (j + 1)))
 c0++[(17,((j + 1:Nat):Int),0,0,0,0)]++c1++[(16,((j + 1 + c2.length:Nat):Int),0,0,0,0)]++c2
def AV:Nat→Ex→Nat→List AJ
 | 0,_,_=>[]
 | h + 1,x,n=>cond (cond (x.op == 18) true (cond (x.op == 12) true (x.op == 13))) (Cb (AV h) x n) (EW (AV h) x.ks n++[Ah mi ms mp mr x])
end
section
variable (Cg:Ex→Prop)
def AE (f:Ex→Nat→List AJ) (l:List AJ) (x:Ex):List AJ:=l++f x l.length
theorem Fg {Cg:Ex→Prop} {f:Ex→Nat→List AJ} (hfl:∀ k n,Cg k→(f k n).length≤4 * nE k) (l:List AJ) {k:Ex} (hk:Cg k):(AE f l k).length≤l.length + 4 * nE k∧l.length≤(AE f l k).length:=by
 have:=hfl k l.length hk
 unfold AE
 rw [List.length_append]
 omega
def Gs (f:Ex→Nat→List AJ) (l:List AJ) (k0:Ex) (k1:Ex) (k2:Ex):List AJ:=Al ((AE f (Al (((AE f ((AE f l k0)++[((17,0,0,0,0,0):AJ)]) k1))++[((16,0,0,0,0,0):AJ)]) ((AE f l k0).length) (((((AE f ((AE f l k0)++[((17,0,0,0,0,0):AJ)]) k1))++[((16,0,0,0,0,0):AJ)]).length:Int))) k2)) (((AE f ((AE f l k0)++[((17,0,0,0,0,0):AJ)]) k1)).length) ((((AE f (Al (((AE f ((AE f l k0)++[((17,0,0,0,0,0):AJ)]) k1))++[((16,0,0,0,0,0):AJ)]) ((AE f l k0).length) (((((AE f ((AE f l k0)++[((17,0,0,0,0,0):AJ)]) k1))++[((16,0,0,0,0,0):AJ)]).length:Int))) k2)).length:Int))
noncomputable def SW:Code:=Tryz.f54.body.getD .skip
def Oy:List Item:=Ac 1 ([.code SW])
def Ka:Array Oper:=(Cs Oy).getD #[]
def fS:Wr:=[(9,0),(10,1),(12,3),(13,4),(14,5)]
def VE:List Item:=AB (As BK 90 (AO Oy)) (AO Oy)
def eC:List Item:=AB 60 (AF VE)
def Ox:List Item:=Ac 6 (AL eC)
def KZ:Array Oper:=(Cs Ox).getD #[]
def fR:Wr:=[(29,0),(30,1),(32,3),(33,4),(34,5)]
def Ow:List Item:=AB (As BK 90 (AO Ox)) (AO Ox)
def VD:List Item:=AB (As Ae 90 (AF Ow)) (AF Ow)
def eB:List Item:=AB (As F9 90 (AF VD)) (AF VD)
def eA:List Item:=AB 60 (AF eB)
def d9:List Item:=AB 60 (AL eA)
def Ov:List Item:=Ac 11 (AL d9)
def JK:Array Oper:=(Cs Ov).getD #[]
def ef:Wr:=[(50,0),(51,1),(53,3),(54,4),(55,5)]
def QA:List Item:=AB (As Ae 90 (AO Ov)) (AO Ov)
def W2:List Item:=AB (As F9 90 (AF QA)) (AF QA)
def j3:List Item:=AB 60 (AF W2)
theorem RK (L:List Th) (f:Ex→Nat→List AJ) (p0aaA:Option Addr) (p0aan:Nat) (p0aac:Nat) (p0abA:Option Addr) (p0abn:Nat) (p0abc:Nat) (p0acA:Option Addr) (p0acn:Nat) (p0acc:Nat) (p0adA:Option Addr) (p0adn:Nat) (p0adc:Nat) (bi:Nat) (mi:List (List UInt8×Int)) (bs:Nat) (ms:List (List UInt8×Int)) (bp:Nat) (mp:List (List UInt8×Int)) (br:Nat) (mr:List (List UInt8×Int)) (p1A:Option Addr) (l:List AJ) (p1c:Nat) (x:Ex) (p2A0:Option Addr) (k0:Ex) (k1:Ex) (k2:Ex) (p2c0:Nat) (w we:World) (hm_mi:AZ.at BC bi mi w) (hm_ms:AZ.at BC bs ms w) (hm_mp:AZ.at BC bp mp w) (hm_mr:AZ.at BC br mr w) (h_x0:rowsEx w p2A0 [k0,k1,k2]) (hih:∀ (L:List Th) (p1A:Option Addr) (l:List AJ) (p1c:Nat) (x':Ex) (p2A0:Option Addr) (p2c0:Nat) (we:World),rowsEx w p2A0 x'.ks→Cg x'→l.length + 4 * nE x'≤400000000→Below w.heap.size w we→AY w.heap.size we ([CM p1A p1c l]++L)→Calls Tryz.prog 22 ([.agg ⟨[.slice p0aaA p0aan p0aac,.slice p0abA p0abn p0abc,.slice p0acA p0acn p0acc,.slice p0adA p0adn p0adc,.map (some bi),.map (some bs),.map (some bp),.map (some br)]⟩,.slice p1A l.length p1c,.agg ⟨Bo x' p2A0 p2c0⟩]:List Value).toArray we fun e w'=>∃ (rA0:Option Addr) (rc0:Nat),e=.returned (.slice rA0 (AE f l x').length rc0)∧Below w.heap.size w w'∧AY w.heap.size w' ([CM rA0 rc0 (AE f l x')]++L)) (hgood:∀ k∈[k0,k1,k2],Cg k) (hfl:∀ k n,Cg k→(f k n).length≤4 * nE k) (hb:l.length + 4 * (nE k0 + nE k1 + nE k2) + 4≤400000000) (B:Below w.heap.size w we) (H:AY w.heap.size we ([(CM p1A p1c l)]++L)):Calls Tryz.prog 54 ([.agg ⟨[.slice p0aaA p0aan p0aac,.slice p0abA p0abn p0abc,.slice p0acA p0acn p0acc,.slice p0adA p0adn p0adc,.map (some bi),.map (some bs),.map (some bp),.map (some br)]⟩,.slice p1A l.length p1c,.agg ⟨[.int .i64 18,.int .i64 x.num,.int .i64 x.den,.int .i64 x.mu,.int .i64 x.hu,.int .i64 x.du,.string ⟨⟨x.nm⟩⟩,.int .i64 x.cnt,.int .i64 x.md,.slice p2A0 3 p2c0]⟩]:List Value).toArray we fun e w'=>∃ (rA0:Option Addr) (rc0:Nat),e=.returned (.slice rA0 ((Gs f l k0 k1 k2).length) rc0)∧Below w.heap.size w w'∧AY w.heap.size w' ([CM rA0 rc0 (Gs f l k0 k1 k2)]++L):=by
 refine Ab (fn:=Tryz.f54) (c:=SW) (n:=79) ?_
 have K1:Wk w we [] [(CM p1A p1c l)] L:=⟨B,H⟩
 clear B H
 refine Bw 1 Oy [⟨we.heap.size,0,[.slice p0aaA p0aan p0aac,.slice p0abA p0abn p0abc,.slice p0acA p0acn p0acc,.slice p0adA p0adn p0adc,.map (some bi),.map (some bs),.map (some bp),.map (some br)],75,true⟩,⟨we.heap.size + 1,0,[.int .i64 18,.int .i64 x.num,.int .i64 x.den,.int .i64 x.mu,.int .i64 x.hu,.int .i64 x.du,.string ⟨⟨x.nm⟩⟩,.int .i64 x.cnt,.int .i64 x.md,.slice p2A0 3 p2c0],32,true⟩] K1 [] fun w1 K2=>?_
 obtain ⟨gk,offk,rfl,hgk,hallk⟩:=h_x0.all (by simp)
 obtain ⟨k0A,k0c,hrowk0,h_k0⟩:=hallk 0 k0 rfl
 refine DY Ka 8 ?_
 refine Ct (i:=2) (v:=.pointer (some ⟨we.heap.size + 1,9,none⟩)) (Ka.getD 2 default) (fun _ _ _ h=>nomatch h.1) ?_
 refine Ce (md:=.any) (fuel:=2) (L:=[Ar 0 [] (.agg ⟨[.slice p0aaA p0aan p0aac,.slice p0abA p0abn p0abc,.slice p0acA p0acn p0acc,.slice p0adA p0adn p0adc,.map (some bi),.map (some bs),.map (some bp),.map (some br)]⟩),Ar 1 [] (.slice p1A l.length p1c),Ar 3 [] (.slice (some ⟨gk,offk,none⟩) 3 p2c0),Ar 4 [3] (.pointer (some ⟨gk,offk + 0 * 10,none⟩)),Ar 5 [3,4] (.agg ⟨[.int .i64 k0.op,.int .i64 k0.num,.int .i64 k0.den,.int .i64 k0.mu,.int .i64 k0.hu,.int .i64 k0.du,.string ⟨⟨k0.nm⟩⟩,.int .i64 k0.cnt,.int .i64 k0.md,.slice k0A k0.ks.length k0c]⟩)]) (W:=fS) (C:=fun u=>Below w1.heap.size w1 u) (Ext:=CQ) (Below.refl _ _).drew CQ.refl (fun _ _ _=>CQ.trans) ⟨?_,?_,?_,?_,?_,trivial⟩ rfl ?_
 ·refine ⟨fun _ _ _ _ _ h=>h,fun vals u hu hb=>?_⟩
  exact AN.knownE [] trivial (AN.reads ⟨0,_,(0,0),[]⟩ (Au K2.G hu) (.agg ⟨[.slice p0aaA p0aan p0aac,.slice p0abA p0abn p0abc,.slice p0acA p0acn p0acc,.slice p0adA p0adn p0adc,.map (some bi),.map (some bs),.map (some bp),.map (some br)]⟩) ⟨hu,.refl _,rfl⟩)
 ·refine ⟨fun _ _ _ _ _ h=>h,fun vals u hu hb=>?_⟩
  exact AN.knownE [] trivial (AN.reads ⟨0,[],(0,0),[]⟩ (fun e he=>by cases he) (.slice p1A l.length p1c) ⟨hu,.refl _,rfl⟩)
 ·refine ⟨fun _ _ _ _ _ h=>h,fun vals u hu hb=>?_⟩
  exact AN.knownE [] trivial (AN.reads ⟨0,_,(1,9),[]⟩ (Au K2.G hu) (.slice (some ⟨gk,offk,none⟩) 3 p2c0) ⟨hu,.refl _,rfl⟩)
 ·refine ⟨fun _ _ _ _ _ h=>h,fun vals u hu hb=>?_⟩
  obtain ⟨h3,_⟩:=hb
  exact AN.knownE [(12,3,.slice (some ⟨gk,offk,none⟩) 3 p2c0)] ⟨(List.cons.inj h3).1,trivial⟩ (AN.value (Cd (sz:=10) (cap:=p2c0) 30 (.tmp 12) (.const (.int .i64 0)) rfl rfl (by decide) Tryz.underlying30) ⟨hu,.refl _,rfl⟩)
 ·refine ⟨fun _ _ _ _ _ h=>h,fun vals u hu hb=>?_⟩
  obtain ⟨h3,h4,_⟩:=hb
  exact AN.knownE [(13,4,.pointer (some ⟨gk,offk + 0 * 10,none⟩))] ⟨(List.cons.inj h4).1,trivial⟩ (AN.reads ⟨0,[⟨gk,offk + 0 * 10,[.int .i64 k0.op,.int .i64 k0.num,.int .i64 k0.den,.int .i64 k0.mu,.int .i64 k0.hu,.int .i64 k0.du,.string ⟨⟨k0.nm⟩⟩,.int .i64 k0.cnt,.int .i64 k0.md,.slice k0A k0.ks.length k0c],32,false⟩],(0,0),[]⟩ (fun e he=>by rw [List.mem_singleton.1 he]; exact ⟨Nat.lt_of_lt_of_le hgk (K2.B.trans (hu.mono K2.B.size)).size,Af hrowk0 hgk (K2.B.trans (hu.mono K2.B.size))⟩) (.agg ⟨[.int .i64 k0.op,.int .i64 k0.num,.int .i64 k0.den,.int .i64 k0.mu,.int .i64 k0.hu,.int .i64 k0.du,.string ⟨⟨k0.nm⟩⟩,.int .i64 k0.cnt,.int .i64 k0.md,.slice k0A k0.ks.length k0c]⟩) ⟨hu,.refl _,rfl⟩)
 intro vals w2 b2 _ hall
 replace b2:Below w1.heap.size w1 w2:=b2
 obtain ⟨x0,x1,x3,x4,x5,_⟩:=hall
 have K3:=K2.below b2
 refine C0 [(1,.slice p1A l.length p1c),(3,.pointer (some ⟨we.heap.size,0,none⟩)),(5,.pointer (some ⟨we.heap.size + 1,0,none⟩)),(6,.slice none 0 0),(9,vals 0),(10,vals 1),(14,vals 5)] fun E2=>?_
 rw [show vals 0=.agg ⟨[.slice p0aaA p0aan p0aac,.slice p0abA p0abn p0abc,.slice p0acA p0acn p0acc,.slice p0adA p0adn p0adc,.map (some bi),.map (some bs),.map (some bp),.map (some br)]⟩ from (List.cons.inj x0).1]
 rw [show vals 1=.slice p1A l.length p1c from (List.cons.inj x1).1]
 rw [show vals 5=.agg ⟨[.int .i64 k0.op,.int .i64 k0.num,.int .i64 k0.den,.int .i64 k0.mu,.int .i64 k0.hu,.int .i64 k0.du,.string ⟨⟨k0.nm⟩⟩,.int .i64 k0.cnt,.int .i64 k0.md,.slice k0A k0.ks.length k0c]⟩ from (List.cons.inj x5).1]
 have Kf:=(K3.pickL (L':=[(CM p1A p1c l)]++[]) [0] rfl (by decide)).front
 refine FG (i:=6) (ats:=#[75,47,32]) (Ka.getD 6 default) 22 [.tmp 9,.tmp 10,.tmp 14] [.agg ⟨[.slice p0aaA p0aan p0aac,.slice p0abA p0abn p0abc,.slice p0acA p0acn p0acc,.slice p0adA p0adn p0adc,.map (some bi),.map (some bs),.map (some bp),.map (some br)]⟩,.slice p1A l.length p1c,.agg ⟨[.int .i64 k0.op,.int .i64 k0.num,.int .i64 k0.den,.int .i64 k0.mu,.int .i64 k0.hu,.int .i64 k0.du,.string ⟨⟨k0.nm⟩⟩,.int .i64 k0.cnt,.int .i64 k0.md,.slice k0A k0.ks.length k0c]⟩] ((hih _ p1A l p1c k0 k0A k0c w2 h_k0 (hgood _ (by simp)) (by ((try simp only [maxLen,DE,List.length_set,List.length_append,List.length_cons,List.length_nil,List.length_singleton]) <;> omega)) K3.B Kf).mono fun en w4 hh=>?_)
 obtain ⟨A3_0,c3_0,rfl,b4,Hn⟩:=hh
 refine ⟨_,rfl,?_⟩
 have K4:=Wk.unfront b4 Hn
 have hq1:=Fg hfl l (k:=k0) (hgood _ (by simp))
 try simp only [DE,List.length_append,List.length_cons,List.length_nil,List.length_singleton] at hq1
 refine DW (i:=7) K4 (Ka.getD 7 default) (0,0) (.slice A3_0 ((AE f l k0).length) c3_0) fun w5 K5=>?_
 refine DV ⟨rfl,At.mid ?_⟩
 refine CA BK VE [⟨we.heap.size,0,[.slice p0aaA p0aan p0aac,.slice p0abA p0abn p0abc,.slice p0acA p0acn p0acc,.slice p0adA p0adn p0adc,.map (some bi),.map (some bs),.map (some bp),.map (some br)],75,true⟩,⟨we.heap.size + 1,0,[.int .i64 18,.int .i64 x.num,.int .i64 x.den,.int .i64 x.mu,.int .i64 x.hu,.int .i64 x.du,.string ⟨⟨x.nm⟩⟩,.int .i64 x.cnt,.int .i64 x.md,.slice (some ⟨gk,offk,none⟩) 3 p2c0],32,true⟩,⟨w5.heap.size,0,[.int .i64 17,.int .i64 0,.int .i64 0,.int .i64 0,.int .i64 0,.int .i64 0],53,true⟩] K5 [] fun w6 K6=>?_
 refine CF K6.H (K6.ix 0) (K6.at 0 rfl) (((17,0,0,0,0,0):AJ)) [.int .i64 17,.int .i64 0,.int .i64 0,.int .i64 0,.int .i64 0,.int .i64 0] rfl (w5.heap.size) (K6.ent 2 (by kernel_rfl)) (Ck VE) (by kernel_rfl) (.tmp 18) (.tmp 20) 47 (by kernel_rfl) (by kernel_rfl) (by kernel_rfl) (by decide) (by kernel_rfl) (by kernel_rfl) rfl rfl (by ((try simp only [maxLen,DE,List.length_set,List.length_append,List.length_cons,List.length_nil,List.length_singleton]) <;> omega)) fun A7 c7 w7 Hn b7=>?_
 have K7:=K6.put 0 (by simp) b7 Hn
 refine AC eC K7 [(1,0)] fun w8 K8=>?_
 refine AK false (fun h=>nomatch h) (fun _=>?_)
 refine Ag 6 Ox K8 [] fun w9 K9=>?_
 obtain ⟨k1A,k1c,hrowk1,h_k1⟩:=hallk 1 k1 rfl
 refine DY KZ 8 ?_
 refine Ct (i:=2) (v:=.pointer (some ⟨we.heap.size + 1,9,none⟩)) (KZ.getD 2 default) (fun _ _ _ h=>nomatch h.1) ?_
 refine Ce (md:=.any) (fuel:=2) (L:=[Ar 0 [] (.agg ⟨[.slice p0aaA p0aan p0aac,.slice p0abA p0abn p0abc,.slice p0acA p0acn p0acc,.slice p0adA p0adn p0adc,.map (some bi),.map (some bs),.map (some bp),.map (some br)]⟩),Ar 1 [] (.slice A7 (((AE f l k0)++[((17,0,0,0,0,0):AJ)]).length) c7),Ar 3 [] (.slice (some ⟨gk,offk,none⟩) 3 p2c0),Ar 4 [3] (.pointer (some ⟨gk,offk + 1 * 10,none⟩)),Ar 5 [3,4] (.agg ⟨[.int .i64 k1.op,.int .i64 k1.num,.int .i64 k1.den,.int .i64 k1.mu,.int .i64 k1.hu,.int .i64 k1.du,.string ⟨⟨k1.nm⟩⟩,.int .i64 k1.cnt,.int .i64 k1.md,.slice k1A k1.ks.length k1c]⟩)]) (W:=fR) (C:=fun u=>Below w9.heap.size w9 u) (Ext:=CQ) (Below.refl _ _).drew CQ.refl (fun _ _ _=>CQ.trans) ⟨?_,?_,?_,?_,?_,trivial⟩ rfl ?_
 ·refine ⟨fun _ _ _ _ _ h=>h,fun vals u hu hb=>?_⟩
  exact AN.knownE [] trivial (AN.reads ⟨0,_,(0,0),[]⟩ (Au K9.G hu) (.agg ⟨[.slice p0aaA p0aan p0aac,.slice p0abA p0abn p0abc,.slice p0acA p0acn p0acc,.slice p0adA p0adn p0adc,.map (some bi),.map (some bs),.map (some bp),.map (some br)]⟩) ⟨hu,.refl _,rfl⟩)
 ·refine ⟨fun _ _ _ _ _ h=>h,fun vals u hu hb=>?_⟩
  exact AN.knownE [] trivial (AN.reads ⟨0,[],(0,0),[]⟩ (fun e he=>by cases he) (.slice A7 (((AE f l k0)++[((17,0,0,0,0,0):AJ)]).length) c7) ⟨hu,.refl _,rfl⟩)
 ·refine ⟨fun _ _ _ _ _ h=>h,fun vals u hu hb=>?_⟩
  exact AN.knownE [] trivial (AN.reads ⟨0,_,(1,9),[]⟩ (Au K9.G hu) (.slice (some ⟨gk,offk,none⟩) 3 p2c0) ⟨hu,.refl _,rfl⟩)
 ·refine ⟨fun _ _ _ _ _ h=>h,fun vals u hu hb=>?_⟩
  obtain ⟨h3,_⟩:=hb
  exact AN.knownE [(32,3,.slice (some ⟨gk,offk,none⟩) 3 p2c0)] ⟨(List.cons.inj h3).1,trivial⟩ (AN.value (Cd (sz:=10) (cap:=p2c0) 30 (.tmp 32) (.const (.int .i64 1)) rfl rfl (by decide) Tryz.underlying30) ⟨hu,.refl _,rfl⟩)
 ·refine ⟨fun _ _ _ _ _ h=>h,fun vals u hu hb=>?_⟩
  obtain ⟨h3,h4,_⟩:=hb
  exact AN.knownE [(33,4,.pointer (some ⟨gk,offk + 1 * 10,none⟩))] ⟨(List.cons.inj h4).1,trivial⟩ (AN.reads ⟨0,[⟨gk,offk + 1 * 10,[.int .i64 k1.op,.int .i64 k1.num,.int .i64 k1.den,.int .i64 k1.mu,.int .i64 k1.hu,.int .i64 k1.du,.string ⟨⟨k1.nm⟩⟩,.int .i64 k1.cnt,.int .i64 k1.md,.slice k1A k1.ks.length k1c],32,false⟩],(0,0),[]⟩ (fun e he=>by rw [List.mem_singleton.1 he]; exact ⟨Nat.lt_of_lt_of_le hgk (K9.B.trans (hu.mono K9.B.size)).size,Af hrowk1 hgk (K9.B.trans (hu.mono K9.B.size))⟩) (.agg ⟨[.int .i64 k1.op,.int .i64 k1.num,.int .i64 k1.den,.int .i64 k1.mu,.int .i64 k1.hu,.int .i64 k1.du,.string ⟨⟨k1.nm⟩⟩,.int .i64 k1.cnt,.int .i64 k1.md,.slice k1A k1.ks.length k1c]⟩) ⟨hu,.refl _,rfl⟩)
 intro vals w10 b10 _ hall
 replace b10:Below w9.heap.size w9 w10:=b10
 obtain ⟨x0,x1,x3,x4,x5,_⟩:=hall
 have K10:=K9.below b10
 refine C0 [(1,.slice A7 (((AE f l k0)++[((17,0,0,0,0,0):AJ)]).length) c7),(3,.pointer (some ⟨we.heap.size,0,none⟩)),(5,.pointer (some ⟨we.heap.size + 1,0,none⟩)),(6,.slice none 0 0),(7,.int .i64 (((AE f l k0).length:Int))),(29,vals 0),(30,vals 1),(34,vals 5)] fun E10=>?_
 rw [show vals 0=.agg ⟨[.slice p0aaA p0aan p0aac,.slice p0abA p0abn p0abc,.slice p0acA p0acn p0acc,.slice p0adA p0adn p0adc,.map (some bi),.map (some bs),.map (some bp),.map (some br)]⟩ from (List.cons.inj x0).1]
 rw [show vals 1=.slice A7 (((AE f l k0)++[((17,0,0,0,0,0):AJ)]).length) c7 from (List.cons.inj x1).1]
 rw [show vals 5=.agg ⟨[.int .i64 k1.op,.int .i64 k1.num,.int .i64 k1.den,.int .i64 k1.mu,.int .i64 k1.hu,.int .i64 k1.du,.string ⟨⟨k1.nm⟩⟩,.int .i64 k1.cnt,.int .i64 k1.md,.slice k1A k1.ks.length k1c]⟩ from (List.cons.inj x5).1]
 have Kf:=(K10.pickL (L':=[(CM A7 c7 ((AE f l k0)++[((17,0,0,0,0,0):AJ)]))]++[]) [0] rfl (by decide)).front
 refine FG (i:=6) (ats:=#[75,47,32]) (KZ.getD 6 default) 22 [.tmp 29,.tmp 30,.tmp 34] [.agg ⟨[.slice p0aaA p0aan p0aac,.slice p0abA p0abn p0abc,.slice p0acA p0acn p0acc,.slice p0adA p0adn p0adc,.map (some bi),.map (some bs),.map (some bp),.map (some br)]⟩,.slice A7 (((AE f l k0)++[((17,0,0,0,0,0):AJ)]).length) c7,.agg ⟨[.int .i64 k1.op,.int .i64 k1.num,.int .i64 k1.den,.int .i64 k1.mu,.int .i64 k1.hu,.int .i64 k1.du,.string ⟨⟨k1.nm⟩⟩,.int .i64 k1.cnt,.int .i64 k1.md,.slice k1A k1.ks.length k1c]⟩] ((hih _ A7 ((AE f l k0)++[((17,0,0,0,0,0):AJ)]) c7 k1 k1A k1c w10 h_k1 (hgood _ (by simp)) (by ((try simp only [maxLen,DE,List.length_set,List.length_append,List.length_cons,List.length_nil,List.length_singleton]) <;> omega)) K10.B Kf).mono fun en w12 hh=>?_)
 obtain ⟨A11_0,c11_0,rfl,b12,Hn⟩:=hh
 refine ⟨_,rfl,?_⟩
 have K11:=Wk.unfront b12 Hn
 have hq2:=Fg hfl ((AE f l k0)++[((17,0,0,0,0,0):AJ)]) (k:=k1) (hgood _ (by simp))
 try simp only [DE,List.length_append,List.length_cons,List.length_nil,List.length_singleton] at hq2
 refine DW (i:=7) K11 (KZ.getD 7 default) (0,0) (.slice A11_0 (((AE f ((AE f l k0)++[((17,0,0,0,0,0):AJ)]) k1)).length) c11_0) fun w13 K12=>?_
 refine DV ⟨rfl,At.mid ?_⟩
 refine CA BK Ow [⟨we.heap.size,0,[.slice p0aaA p0aan p0aac,.slice p0abA p0abn p0abc,.slice p0acA p0acn p0acc,.slice p0adA p0adn p0adc,.map (some bi),.map (some bs),.map (some bp),.map (some br)],75,true⟩,⟨we.heap.size + 1,0,[.int .i64 18,.int .i64 x.num,.int .i64 x.den,.int .i64 x.mu,.int .i64 x.hu,.int .i64 x.du,.string ⟨⟨x.nm⟩⟩,.int .i64 x.cnt,.int .i64 x.md,.slice (some ⟨gk,offk,none⟩) 3 p2c0],32,true⟩,⟨w5.heap.size,0,[.int .i64 17,.int .i64 0,.int .i64 0,.int .i64 0,.int .i64 0,.int .i64 0],53,true⟩,⟨w13.heap.size,0,[.int .i64 16,.int .i64 0,.int .i64 0,.int .i64 0,.int .i64 0,.int .i64 0],53,true⟩] K12 [] fun w14 K13=>?_
 refine CF K13.H (K13.ix 0) (K13.at 0 rfl) (((16,0,0,0,0,0):AJ)) [.int .i64 16,.int .i64 0,.int .i64 0,.int .i64 0,.int .i64 0,.int .i64 0] rfl (w13.heap.size) (K13.ent 3 (by kernel_rfl)) (Ck Ow) (by kernel_rfl) (.tmp 38) (.tmp 40) 47 (by kernel_rfl) (by kernel_rfl) (by kernel_rfl) (by decide) (by kernel_rfl) (by kernel_rfl) rfl rfl (by ((try simp only [maxLen,DE,List.length_set,List.length_append,List.length_cons,List.length_nil,List.length_singleton]) <;> omega)) fun A15 c15 w15 Hn b15=>?_
 have K14:=K13.put 0 (by simp) b15 Hn
 obtain ⟨gB0,rfl,hB0g⟩:=K14.H.rowAt (K14.ix 0) (K14.at 0 rfl) (by ((try simp only [maxLen,DE,List.length_set,List.length_append,List.length_cons,List.length_nil,List.length_singleton]) <;> omega))
 have hd0:(((AE f ((AE f l k0)++[((17,0,0,0,0,0):AJ)]) k1))++[((16,0,0,0,0,0):AJ)])[(AE f l k0).length]?=some ((((AE f ((AE f l k0)++[((17,0,0,0,0,0):AJ)]) k1))++[((16,0,0,0,0,0):AJ)]).getD (AE f l k0).length default):=getD_some default (by ((try simp only [maxLen,DE,List.length_set,List.length_append,List.length_cons,List.length_nil,List.length_singleton]) <;> omega))
 refine BA Ae VD K14 [] fun w16 K15=>?_
 refine BB (g:=gB0) (off:=0) (cap:=c15) (sz:=6) (k:=((AE f l k0).length)) (len:=(((AE f ((AE f l k0)++[((17,0,0,0,0,0):AJ)]) k1))++[((16,0,0,0,0,0):AJ)]).length) (some 46) (by ((try simp only [maxLen,DE,List.length_set,List.length_append,List.length_cons,List.length_nil,List.length_singleton]) <;> omega)) Tryz.underlying47 ?_
 refine BA F9 eB K15 [] fun w17 K16=>?_
 refine Ej K16.H (K16.ix 0) (K16.at 0 rfl) ((AE f l k0).length) ((((AE f ((AE f l k0)++[((17,0,0,0,0,0):AJ)]) k1))++[((16,0,0,0,0,0):AJ)]).getD ((AE f l k0).length) default) hd0 1 (by decide) (.int .i64 (((((AE f ((AE f l k0)++[((17,0,0,0,0,0):AJ)]) k1))++[((16,0,0,0,0,0):AJ)]).length:Int))) (fun r h=>by rw [h]; rfl) (fun _ _ h=>by rw [h]; rfl) 3 none (by kernel_rfl) (by kernel_rfl) rfl rfl (fun w18 Hn b18 Z18=>?_) (e':=(((((AE f ((AE f l k0)++[((17,0,0,0,0,0):AJ)]) k1))++[((16,0,0,0,0,0):AJ)]).getD ((AE f l k0).length) default).1,((((AE f ((AE f l k0)++[((17,0,0,0,0,0):AJ)]) k1))++[((16,0,0,0,0,0):AJ)]).length:Int),((((AE f ((AE f l k0)++[((17,0,0,0,0,0):AJ)]) k1))++[((16,0,0,0,0,0):AJ)]).getD ((AE f l k0).length) default).2.2))
 have K17:=K16.put 0 (by simp) b18 Hn
 refine FF [(1,.slice (some ⟨gB0,0,none⟩) ((Al (((AE f ((AE f l k0)++[((17,0,0,0,0,0):AJ)]) k1))++[((16,0,0,0,0,0):AJ)]) ((AE f l k0).length) (((((AE f ((AE f l k0)++[((17,0,0,0,0,0):AJ)]) k1))++[((16,0,0,0,0,0):AJ)]).length:Int))).length) c15),(3,.pointer (some ⟨we.heap.size,0,none⟩)),(5,.pointer (some ⟨we.heap.size + 1,0,none⟩)),(6,.slice none 0 0),(8,.int .i64 ((((AE f ((AE f l k0)++[((17,0,0,0,0,0):AJ)]) k1)).length:Int)))] (by simp only [DE]; kernel_rfl) fun E18=>?_
 refine AC eA K17 [(1,0)] fun w19 K18=>?_
 refine AK false (fun h=>nomatch h) (fun _=>?_)
 refine AC d9 K18 [] fun w20 K19=>?_
 refine AK false (fun h=>nomatch h) (fun _=>?_)
 refine Ag 11 Ov K19 [] fun w21 K20=>?_
 obtain ⟨k2A,k2c,hrowk2,h_k2⟩:=hallk 2 k2 rfl
 refine DY JK 8 ?_
 refine Ct (i:=2) (v:=.pointer (some ⟨we.heap.size + 1,9,none⟩)) (JK.getD 2 default) (fun _ _ _ h=>nomatch h.1) ?_
 refine Ce (md:=.any) (fuel:=2) (L:=[Ar 0 [] (.agg ⟨[.slice p0aaA p0aan p0aac,.slice p0abA p0abn p0abc,.slice p0acA p0acn p0acc,.slice p0adA p0adn p0adc,.map (some bi),.map (some bs),.map (some bp),.map (some br)]⟩),Ar 1 [] (.slice (some ⟨gB0,0,none⟩) ((Al (((AE f ((AE f l k0)++[((17,0,0,0,0,0):AJ)]) k1))++[((16,0,0,0,0,0):AJ)]) ((AE f l k0).length) (((((AE f ((AE f l k0)++[((17,0,0,0,0,0):AJ)]) k1))++[((16,0,0,0,0,0):AJ)]).length:Int))).length) c15),Ar 3 [] (.slice (some ⟨gk,offk,none⟩) 3 p2c0),Ar 4 [3] (.pointer (some ⟨gk,offk + 2 * 10,none⟩)),Ar 5 [3,4] (.agg ⟨[.int .i64 k2.op,.int .i64 k2.num,.int .i64 k2.den,.int .i64 k2.mu,.int .i64 k2.hu,.int .i64 k2.du,.string ⟨⟨k2.nm⟩⟩,.int .i64 k2.cnt,.int .i64 k2.md,.slice k2A k2.ks.length k2c]⟩)]) (W:=ef) (C:=fun u=>Below w21.heap.size w21 u) (Ext:=CQ) (Below.refl _ _).drew CQ.refl (fun _ _ _=>CQ.trans) ⟨?_,?_,?_,?_,?_,trivial⟩ rfl ?_
 ·refine ⟨fun _ _ _ _ _ h=>h,fun vals u hu hb=>?_⟩
  exact AN.knownE [] trivial (AN.reads ⟨0,_,(0,0),[]⟩ (Au K20.G hu) (.agg ⟨[.slice p0aaA p0aan p0aac,.slice p0abA p0abn p0abc,.slice p0acA p0acn p0acc,.slice p0adA p0adn p0adc,.map (some bi),.map (some bs),.map (some bp),.map (some br)]⟩) ⟨hu,.refl _,rfl⟩)
 ·refine ⟨fun _ _ _ _ _ h=>h,fun vals u hu hb=>?_⟩
  exact AN.knownE [] trivial (AN.reads ⟨0,[],(0,0),[]⟩ (fun e he=>by cases he) (.slice (some ⟨gB0,0,none⟩) ((Al (((AE f ((AE f l k0)++[((17,0,0,0,0,0):AJ)]) k1))++[((16,0,0,0,0,0):AJ)]) ((AE f l k0).length) (((((AE f ((AE f l k0)++[((17,0,0,0,0,0):AJ)]) k1))++[((16,0,0,0,0,0):AJ)]).length:Int))).length) c15) ⟨hu,.refl _,rfl⟩)
 ·refine ⟨fun _ _ _ _ _ h=>h,fun vals u hu hb=>?_⟩
  exact AN.knownE [] trivial (AN.reads ⟨0,_,(1,9),[]⟩ (Au K20.G hu) (.slice (some ⟨gk,offk,none⟩) 3 p2c0) ⟨hu,.refl _,rfl⟩)
 ·refine ⟨fun _ _ _ _ _ h=>h,fun vals u hu hb=>?_⟩
  obtain ⟨h3,_⟩:=hb
  exact AN.knownE [(53,3,.slice (some ⟨gk,offk,none⟩) 3 p2c0)] ⟨(List.cons.inj h3).1,trivial⟩ (AN.value (Cd (sz:=10) (cap:=p2c0) 30 (.tmp 53) (.const (.int .i64 2)) rfl rfl (by decide) Tryz.underlying30) ⟨hu,.refl _,rfl⟩)
 ·refine ⟨fun _ _ _ _ _ h=>h,fun vals u hu hb=>?_⟩
  obtain ⟨h3,h4,_⟩:=hb
  exact AN.knownE [(54,4,.pointer (some ⟨gk,offk + 2 * 10,none⟩))] ⟨(List.cons.inj h4).1,trivial⟩ (AN.reads ⟨0,[⟨gk,offk + 2 * 10,[.int .i64 k2.op,.int .i64 k2.num,.int .i64 k2.den,.int .i64 k2.mu,.int .i64 k2.hu,.int .i64 k2.du,.string ⟨⟨k2.nm⟩⟩,.int .i64 k2.cnt,.int .i64 k2.md,.slice k2A k2.ks.length k2c],32,false⟩],(0,0),[]⟩ (fun e he=>by rw [List.mem_singleton.1 he]; exact ⟨Nat.lt_of_lt_of_le hgk (K20.B.trans (hu.mono K20.B.size)).size,Af hrowk2 hgk (K20.B.trans (hu.mono K20.B.size))⟩) (.agg ⟨[.int .i64 k2.op,.int .i64 k2.num,.int .i64 k2.den,.int .i64 k2.mu,.int .i64 k2.hu,.int .i64 k2.du,.string ⟨⟨k2.nm⟩⟩,.int .i64 k2.cnt,.int .i64 k2.md,.slice k2A k2.ks.length k2c]⟩) ⟨hu,.refl _,rfl⟩)
 intro vals w22 b22 _ hall
 replace b22:Below w21.heap.size w21 w22:=b22
 obtain ⟨x0,x1,x3,x4,x5,_⟩:=hall
 have K21:=K20.below b22
 refine C0 [(1,.slice (some ⟨gB0,0,none⟩) ((Al (((AE f ((AE f l k0)++[((17,0,0,0,0,0):AJ)]) k1))++[((16,0,0,0,0,0):AJ)]) ((AE f l k0).length) (((((AE f ((AE f l k0)++[((17,0,0,0,0,0):AJ)]) k1))++[((16,0,0,0,0,0):AJ)]).length:Int))).length) c15),(6,.slice none 0 0),(8,.int .i64 ((((AE f ((AE f l k0)++[((17,0,0,0,0,0):AJ)]) k1)).length:Int))),(50,vals 0),(51,vals 1),(55,vals 5)] fun E22=>?_
 rw [show vals 0=.agg ⟨[.slice p0aaA p0aan p0aac,.slice p0abA p0abn p0abc,.slice p0acA p0acn p0acc,.slice p0adA p0adn p0adc,.map (some bi),.map (some bs),.map (some bp),.map (some br)]⟩ from (List.cons.inj x0).1]
 rw [show vals 1=.slice (some ⟨gB0,0,none⟩) ((Al (((AE f ((AE f l k0)++[((17,0,0,0,0,0):AJ)]) k1))++[((16,0,0,0,0,0):AJ)]) ((AE f l k0).length) (((((AE f ((AE f l k0)++[((17,0,0,0,0,0):AJ)]) k1))++[((16,0,0,0,0,0):AJ)]).length:Int))).length) c15 from (List.cons.inj x1).1]
 rw [show vals 5=.agg ⟨[.int .i64 k2.op,.int .i64 k2.num,.int .i64 k2.den,.int .i64 k2.mu,.int .i64 k2.hu,.int .i64 k2.du,.string ⟨⟨k2.nm⟩⟩,.int .i64 k2.cnt,.int .i64 k2.md,.slice k2A k2.ks.length k2c]⟩ from (List.cons.inj x5).1]
 have Kf:=(K21.pickL (L':=[(CM (some ⟨gB0,0,none⟩) c15 (Al (((AE f ((AE f l k0)++[((17,0,0,0,0,0):AJ)]) k1))++[((16,0,0,0,0,0):AJ)]) ((AE f l k0).length) (((((AE f ((AE f l k0)++[((17,0,0,0,0,0):AJ)]) k1))++[((16,0,0,0,0,0):AJ)]).length:Int))))]++[]) [0] rfl (by decide)).front
 refine FG (i:=6) (ats:=#[75,47,32]) (JK.getD 6 default) 22 [.tmp 50,.tmp 51,.tmp 55] [.agg ⟨[.slice p0aaA p0aan p0aac,.slice p0abA p0abn p0abc,.slice p0acA p0acn p0acc,.slice p0adA p0adn p0adc,.map (some bi),.map (some bs),.map (some bp),.map (some br)]⟩,.slice (some ⟨gB0,0,none⟩) ((Al (((AE f ((AE f l k0)++[((17,0,0,0,0,0):AJ)]) k1))++[((16,0,0,0,0,0):AJ)]) ((AE f l k0).length) (((((AE f ((AE f l k0)++[((17,0,0,0,0,0):AJ)]) k1))++[((16,0,0,0,0,0):AJ)]).length:Int))).length) c15,.agg ⟨[.int .i64 k2.op,.int .i64 k2.num,.int .i64 k2.den,.int .i64 k2.mu,.int .i64 k2.hu,.int .i64 k2.du,.string ⟨⟨k2.nm⟩⟩,.int .i64 k2.cnt,.int .i64 k2.md,.slice k2A k2.ks.length k2c]⟩] ((hih _ (some ⟨gB0,0,none⟩) (Al (((AE f ((AE f l k0)++[((17,0,0,0,0,0):AJ)]) k1))++[((16,0,0,0,0,0):AJ)]) ((AE f l k0).length) (((((AE f ((AE f l k0)++[((17,0,0,0,0,0):AJ)]) k1))++[((16,0,0,0,0,0):AJ)]).length:Int))) c15 k2 k2A k2c w22 h_k2 (hgood _ (by simp)) (by ((try simp only [maxLen,DE,List.length_set,List.length_append,List.length_cons,List.length_nil,List.length_singleton]) <;> omega)) K21.B Kf).mono fun en w24 hh=>?_)
 obtain ⟨A23_0,c23_0,rfl,b24,Hn⟩:=hh
 refine ⟨_,rfl,?_⟩
 have K22:=Wk.unfront b24 Hn
 have hq3:=Fg hfl (Al (((AE f ((AE f l k0)++[((17,0,0,0,0,0):AJ)]) k1))++[((16,0,0,0,0,0):AJ)]) ((AE f l k0).length) (((((AE f ((AE f l k0)++[((17,0,0,0,0,0):AJ)]) k1))++[((16,0,0,0,0,0):AJ)]).length:Int))) (k:=k2) (hgood _ (by simp))
 try simp only [DE,List.length_append,List.length_cons,List.length_nil,List.length_singleton] at hq3
 refine JY (i:=7) K22 (JK.getD 7 default) [⟨we.heap.size,0,[.slice p0aaA p0aan p0aac,.slice p0abA p0abn p0abc,.slice p0acA p0acn p0acc,.slice p0adA p0adn p0adc,.map (some bi),.map (some bs),.map (some bp),.map (some br)],75,true⟩,⟨we.heap.size + 1,0,[.int .i64 18,.int .i64 x.num,.int .i64 x.den,.int .i64 x.mu,.int .i64 x.hu,.int .i64 x.du,.string ⟨⟨x.nm⟩⟩,.int .i64 x.cnt,.int .i64 x.md,.slice (some ⟨gk,offk,none⟩) 3 p2c0],32,true⟩,⟨w5.heap.size,0,[.int .i64 17,.int .i64 0,.int .i64 0,.int .i64 0,.int .i64 0,.int .i64 0],53,true⟩,⟨w13.heap.size,0,[.int .i64 16,.int .i64 0,.int .i64 0,.int .i64 0,.int .i64 0,.int .i64 0],53,true⟩] (0,0) (.slice A23_0 (((AE f (Al (((AE f ((AE f l k0)++[((17,0,0,0,0,0):AJ)]) k1))++[((16,0,0,0,0,0):AJ)]) ((AE f l k0).length) (((((AE f ((AE f l k0)++[((17,0,0,0,0,0):AJ)]) k1))++[((16,0,0,0,0,0):AJ)]).length:Int))) k2)).length) c23_0) fun w25 K23=>?_
 refine DV ⟨rfl,At.mid ?_⟩
 obtain ⟨gB1,rfl,hB1g⟩:=K23.H.rowAt (K23.ix 0) (K23.at 0 rfl) (by ((try simp only [maxLen,DE,List.length_set,List.length_append,List.length_cons,List.length_nil,List.length_singleton]) <;> omega))
 have hd1:((AE f (Al (((AE f ((AE f l k0)++[((17,0,0,0,0,0):AJ)]) k1))++[((16,0,0,0,0,0):AJ)]) ((AE f l k0).length) (((((AE f ((AE f l k0)++[((17,0,0,0,0,0):AJ)]) k1))++[((16,0,0,0,0,0):AJ)]).length:Int))) k2))[((AE f ((AE f l k0)++[((17,0,0,0,0,0):AJ)]) k1)).length]?=some (((AE f (Al (((AE f ((AE f l k0)++[((17,0,0,0,0,0):AJ)]) k1))++[((16,0,0,0,0,0):AJ)]) ((AE f l k0).length) (((((AE f ((AE f l k0)++[((17,0,0,0,0,0):AJ)]) k1))++[((16,0,0,0,0,0):AJ)]).length:Int))) k2)).getD ((AE f ((AE f l k0)++[((17,0,0,0,0,0):AJ)]) k1)).length default):=getD_some default (by ((try simp only [maxLen,DE,List.length_set,List.length_append,List.length_cons,List.length_nil,List.length_singleton]) <;> omega))
 refine BA Ae QA K23 [] fun w26 K24=>?_
 refine BB (g:=gB1) (off:=0) (cap:=c23_0) (sz:=6) (k:=(((AE f ((AE f l k0)++[((17,0,0,0,0,0):AJ)]) k1)).length)) (len:=((AE f (Al (((AE f ((AE f l k0)++[((17,0,0,0,0,0):AJ)]) k1))++[((16,0,0,0,0,0):AJ)]) ((AE f l k0).length) (((((AE f ((AE f l k0)++[((17,0,0,0,0,0):AJ)]) k1))++[((16,0,0,0,0,0):AJ)]).length:Int))) k2)).length) (some 76) (by ((try simp only [maxLen,DE,List.length_set,List.length_append,List.length_cons,List.length_nil,List.length_singleton]) <;> omega)) Tryz.underlying47 ?_
 refine BA F9 W2 K24 [] fun w27 K25=>?_
 refine Ej K25.H (K25.ix 0) (K25.at 0 rfl) (((AE f ((AE f l k0)++[((17,0,0,0,0,0):AJ)]) k1)).length) (((AE f (Al (((AE f ((AE f l k0)++[((17,0,0,0,0,0):AJ)]) k1))++[((16,0,0,0,0,0):AJ)]) ((AE f l k0).length) (((((AE f ((AE f l k0)++[((17,0,0,0,0,0):AJ)]) k1))++[((16,0,0,0,0,0):AJ)]).length:Int))) k2)).getD (((AE f ((AE f l k0)++[((17,0,0,0,0,0):AJ)]) k1)).length) default) hd1 1 (by decide) (.int .i64 ((((AE f (Al (((AE f ((AE f l k0)++[((17,0,0,0,0,0):AJ)]) k1))++[((16,0,0,0,0,0):AJ)]) ((AE f l k0).length) (((((AE f ((AE f l k0)++[((17,0,0,0,0,0):AJ)]) k1))++[((16,0,0,0,0,0):AJ)]).length:Int))) k2)).length:Int))) (fun r h=>by rw [h]; rfl) (fun _ _ h=>by rw [h]; rfl) 3 none (by kernel_rfl) (by kernel_rfl) rfl rfl (fun w28 Hn b28 Z28=>?_) (e':=((((AE f (Al (((AE f ((AE f l k0)++[((17,0,0,0,0,0):AJ)]) k1))++[((16,0,0,0,0,0):AJ)]) ((AE f l k0).length) (((((AE f ((AE f l k0)++[((17,0,0,0,0,0):AJ)]) k1))++[((16,0,0,0,0,0):AJ)]).length:Int))) k2)).getD (((AE f ((AE f l k0)++[((17,0,0,0,0,0):AJ)]) k1)).length) default).1,(((AE f (Al (((AE f ((AE f l k0)++[((17,0,0,0,0,0):AJ)]) k1))++[((16,0,0,0,0,0):AJ)]) ((AE f l k0).length) (((((AE f ((AE f l k0)++[((17,0,0,0,0,0):AJ)]) k1))++[((16,0,0,0,0,0):AJ)]).length:Int))) k2)).length:Int),(((AE f (Al (((AE f ((AE f l k0)++[((17,0,0,0,0,0):AJ)]) k1))++[((16,0,0,0,0,0):AJ)]) ((AE f l k0).length) (((((AE f ((AE f l k0)++[((17,0,0,0,0,0):AJ)]) k1))++[((16,0,0,0,0,0):AJ)]).length:Int))) k2)).getD (((AE f ((AE f l k0)++[((17,0,0,0,0,0):AJ)]) k1)).length) default).2.2))
 have K26:=K25.put 0 (by simp) b28 Hn
 refine FF [(1,.slice (some ⟨gB1,0,none⟩) ((Al ((AE f (Al (((AE f ((AE f l k0)++[((17,0,0,0,0,0):AJ)]) k1))++[((16,0,0,0,0,0):AJ)]) ((AE f l k0).length) (((((AE f ((AE f l k0)++[((17,0,0,0,0,0):AJ)]) k1))++[((16,0,0,0,0,0):AJ)]).length:Int))) k2)) (((AE f ((AE f l k0)++[((17,0,0,0,0,0):AJ)]) k1)).length) ((((AE f (Al (((AE f ((AE f l k0)++[((17,0,0,0,0,0):AJ)]) k1))++[((16,0,0,0,0,0):AJ)]) ((AE f l k0).length) (((((AE f ((AE f l k0)++[((17,0,0,0,0,0):AJ)]) k1))++[((16,0,0,0,0,0):AJ)]).length:Int))) k2)).length:Int))).length) c23_0),(6,.slice none 0 0)] (by simp only [DE]; kernel_rfl) fun E28=>?_
 refine AC j3 K26 [] fun w29 K27=>?_
 have hS:(Gs f l k0 k1 k2)=Al ((AE f (Al (((AE f ((AE f l k0)++[((17,0,0,0,0,0):AJ)]) k1))++[((16,0,0,0,0,0):AJ)]) ((AE f l k0).length) (((((AE f ((AE f l k0)++[((17,0,0,0,0,0):AJ)]) k1))++[((16,0,0,0,0,0):AJ)]).length:Int))) k2)) (((AE f ((AE f l k0)++[((17,0,0,0,0,0):AJ)]) k1)).length) ((((AE f (Al (((AE f ((AE f l k0)++[((17,0,0,0,0,0):AJ)]) k1))++[((16,0,0,0,0,0):AJ)]) ((AE f l k0).length) (((((AE f ((AE f l k0)++[((17,0,0,0,0,0):AJ)]) k1))++[((16,0,0,0,0,0):AJ)]).length:Int))) k2)).length:Int)):=by unfold Gs; rfl
 exact Aa K27 (0,0) (.slice (some ⟨gB1,0,none⟩) ((Al ((AE f (Al (((AE f ((AE f l k0)++[((17,0,0,0,0,0):AJ)]) k1))++[((16,0,0,0,0,0):AJ)]) ((AE f l k0).length) (((((AE f ((AE f l k0)++[((17,0,0,0,0,0):AJ)]) k1))++[((16,0,0,0,0,0):AJ)]).length:Int))) k2)) (((AE f ((AE f l k0)++[((17,0,0,0,0,0):AJ)]) k1)).length) ((((AE f (Al (((AE f ((AE f l k0)++[((17,0,0,0,0,0):AJ)]) k1))++[((16,0,0,0,0,0):AJ)]) ((AE f l k0).length) (((((AE f ((AE f l k0)++[((17,0,0,0,0,0):AJ)]) k1))++[((16,0,0,0,0,0):AJ)]).length:Int))) k2)).length:Int))).length) c23_0) ⟨(some ⟨gB1,0,none⟩),c23_0,by rw [hS] <;> rfl,K27.B,by rw [hS]; exact K27.own [0] rfl (by decide)⟩
def GM (f:Ex→Nat→List AJ) (l:List AJ) (k0:Ex) (k1:Ex):List AJ:=Al ((Al (((AE f ((AE f l k0)++[((17,0,0,0,0,0):AJ)]) k1))++[((16,0,0,0,0,0):AJ)]) ((AE f l k0).length) (((((AE f ((AE f l k0)++[((17,0,0,0,0,0):AJ)]) k1))++[((16,0,0,0,0,0):AJ)]).length:Int)))++[(AX 0)]) (((AE f ((AE f l k0)++[((17,0,0,0,0,0):AJ)]) k1)).length) ((((Al (((AE f ((AE f l k0)++[((17,0,0,0,0,0):AJ)]) k1))++[((16,0,0,0,0,0):AJ)]) ((AE f l k0).length) (((((AE f ((AE f l k0)++[((17,0,0,0,0,0):AJ)]) k1))++[((16,0,0,0,0,0):AJ)]).length:Int)))++[(AX 0)]).length:Int))
noncomputable def RF:Code:=Tryz.f54.body.getD .skip
def MM:List Item:=Ac 1 ([.code RF])
def JM:Array Oper:=(Cs MM).getD #[]
def eh:Wr:=[(9,0),(10,1),(12,3),(13,4),(14,5)]
def QD:List Item:=AB (As BK 90 (AO MM)) (AO MM)
def W5:List Item:=AB 60 (AF QD)
def ML:List Item:=Ac 6 (AL W5)
def JL:Array Oper:=(Cs ML).getD #[]
def eg:Wr:=[(29,0),(30,1),(32,3),(33,4),(34,5)]
def MK:List Item:=AB (As BK 90 (AO ML)) (AO ML)
def QC:List Item:=AB (As Ae 90 (AF MK)) (AF MK)
def W4:List Item:=AB (As F9 90 (AF QC)) (AF QC)
def W3:List Item:=AB 60 (AF W4)
def QB:List Item:=AB 60 (AG W3)
def MJ:List Item:=AB (As BK 90 (AF QB)) (AF QB)
def NK:List Item:=AB (As Ae 90 (AF MJ)) (AF MJ)
def R1:List Item:=AB (As F9 90 (AF NK)) (AF NK)
def em:List Item:=AB 60 (AF R1)
theorem OZ (L:List Th) (f:Ex→Nat→List AJ) (p0aaA:Option Addr) (p0aan:Nat) (p0aac:Nat) (p0abA:Option Addr) (p0abn:Nat) (p0abc:Nat) (p0acA:Option Addr) (p0acn:Nat) (p0acc:Nat) (p0adA:Option Addr) (p0adn:Nat) (p0adc:Nat) (bi:Nat) (mi:List (List UInt8×Int)) (bs:Nat) (ms:List (List UInt8×Int)) (bp:Nat) (mp:List (List UInt8×Int)) (br:Nat) (mr:List (List UInt8×Int)) (p1A:Option Addr) (l:List AJ) (p1c:Nat) (x:Ex) (p2A0:Option Addr) (k0:Ex) (k1:Ex) (p2c0:Nat) (w we:World) (hm_mi:AZ.at BC bi mi w) (hm_ms:AZ.at BC bs ms w) (hm_mp:AZ.at BC bp mp w) (hm_mr:AZ.at BC br mr w) (h_x0:rowsEx w p2A0 [k0,k1]) (hih:∀ (L:List Th) (p1A:Option Addr) (l:List AJ) (p1c:Nat) (x':Ex) (p2A0:Option Addr) (p2c0:Nat) (we:World),rowsEx w p2A0 x'.ks→Cg x'→l.length + 4 * nE x'≤400000000→Below w.heap.size w we→AY w.heap.size we ([CM p1A p1c l]++L)→Calls Tryz.prog 22 ([.agg ⟨[.slice p0aaA p0aan p0aac,.slice p0abA p0abn p0abc,.slice p0acA p0acn p0acc,.slice p0adA p0adn p0adc,.map (some bi),.map (some bs),.map (some bp),.map (some br)]⟩,.slice p1A l.length p1c,.agg ⟨Bo x' p2A0 p2c0⟩]:List Value).toArray we fun e w'=>∃ (rA0:Option Addr) (rc0:Nat),e=.returned (.slice rA0 (AE f l x').length rc0)∧Below w.heap.size w w'∧AY w.heap.size w' ([CM rA0 rc0 (AE f l x')]++L)) (hgood:∀ k∈[k0,k1],Cg k) (hfl:∀ k n,Cg k→(f k n).length≤4 * nE k) (hb:l.length + 4 * (nE k0 + nE k1) + 4≤400000000) (B:Below w.heap.size w we) (H:AY w.heap.size we ([(CM p1A p1c l)]++L)):Calls Tryz.prog 54 ([.agg ⟨[.slice p0aaA p0aan p0aac,.slice p0abA p0abn p0abc,.slice p0acA p0acn p0acc,.slice p0adA p0adn p0adc,.map (some bi),.map (some bs),.map (some bp),.map (some br)]⟩,.slice p1A l.length p1c,.agg ⟨[.int .i64 12,.int .i64 x.num,.int .i64 x.den,.int .i64 x.mu,.int .i64 x.hu,.int .i64 x.du,.string ⟨⟨x.nm⟩⟩,.int .i64 x.cnt,.int .i64 x.md,.slice p2A0 2 p2c0]⟩]:List Value).toArray we fun e w'=>∃ (rA0:Option Addr) (rc0:Nat),e=.returned (.slice rA0 ((GM f l k0 k1).length) rc0)∧Below w.heap.size w w'∧AY w.heap.size w' ([CM rA0 rc0 (GM f l k0 k1)]++L):=by
 refine Ab (fn:=Tryz.f54) (c:=RF) (n:=79) ?_
 have K1:Wk w we [] [(CM p1A p1c l)] L:=⟨B,H⟩
 clear B H
 refine Bw 1 MM [⟨we.heap.size,0,[.slice p0aaA p0aan p0aac,.slice p0abA p0abn p0abc,.slice p0acA p0acn p0acc,.slice p0adA p0adn p0adc,.map (some bi),.map (some bs),.map (some bp),.map (some br)],75,true⟩,⟨we.heap.size + 1,0,[.int .i64 12,.int .i64 x.num,.int .i64 x.den,.int .i64 x.mu,.int .i64 x.hu,.int .i64 x.du,.string ⟨⟨x.nm⟩⟩,.int .i64 x.cnt,.int .i64 x.md,.slice p2A0 2 p2c0],32,true⟩] K1 [] fun w1 K2=>?_
 obtain ⟨gk,offk,rfl,hgk,hallk⟩:=h_x0.all (by simp)
 obtain ⟨k0A,k0c,hrowk0,h_k0⟩:=hallk 0 k0 rfl
 refine DY JM 8 ?_
 refine Ct (i:=2) (v:=.pointer (some ⟨we.heap.size + 1,9,none⟩)) (JM.getD 2 default) (fun _ _ _ h=>nomatch h.1) ?_
 refine Ce (md:=.any) (fuel:=2) (L:=[Ar 0 [] (.agg ⟨[.slice p0aaA p0aan p0aac,.slice p0abA p0abn p0abc,.slice p0acA p0acn p0acc,.slice p0adA p0adn p0adc,.map (some bi),.map (some bs),.map (some bp),.map (some br)]⟩),Ar 1 [] (.slice p1A l.length p1c),Ar 3 [] (.slice (some ⟨gk,offk,none⟩) 2 p2c0),Ar 4 [3] (.pointer (some ⟨gk,offk + 0 * 10,none⟩)),Ar 5 [3,4] (.agg ⟨[.int .i64 k0.op,.int .i64 k0.num,.int .i64 k0.den,.int .i64 k0.mu,.int .i64 k0.hu,.int .i64 k0.du,.string ⟨⟨k0.nm⟩⟩,.int .i64 k0.cnt,.int .i64 k0.md,.slice k0A k0.ks.length k0c]⟩)]) (W:=eh) (C:=fun u=>Below w1.heap.size w1 u) (Ext:=CQ) (Below.refl _ _).drew CQ.refl (fun _ _ _=>CQ.trans) ⟨?_,?_,?_,?_,?_,trivial⟩ rfl ?_
 ·refine ⟨fun _ _ _ _ _ h=>h,fun vals u hu hb=>?_⟩
  exact AN.knownE [] trivial (AN.reads ⟨0,_,(0,0),[]⟩ (Au K2.G hu) (.agg ⟨[.slice p0aaA p0aan p0aac,.slice p0abA p0abn p0abc,.slice p0acA p0acn p0acc,.slice p0adA p0adn p0adc,.map (some bi),.map (some bs),.map (some bp),.map (some br)]⟩) ⟨hu,.refl _,rfl⟩)
 ·refine ⟨fun _ _ _ _ _ h=>h,fun vals u hu hb=>?_⟩
  exact AN.knownE [] trivial (AN.reads ⟨0,[],(0,0),[]⟩ (fun e he=>by cases he) (.slice p1A l.length p1c) ⟨hu,.refl _,rfl⟩)
 ·refine ⟨fun _ _ _ _ _ h=>h,fun vals u hu hb=>?_⟩
  exact AN.knownE [] trivial (AN.reads ⟨0,_,(1,9),[]⟩ (Au K2.G hu) (.slice (some ⟨gk,offk,none⟩) 2 p2c0) ⟨hu,.refl _,rfl⟩)
 ·refine ⟨fun _ _ _ _ _ h=>h,fun vals u hu hb=>?_⟩
  obtain ⟨h3,_⟩:=hb
  exact AN.knownE [(12,3,.slice (some ⟨gk,offk,none⟩) 2 p2c0)] ⟨(List.cons.inj h3).1,trivial⟩ (AN.value (Cd (sz:=10) (cap:=p2c0) 30 (.tmp 12) (.const (.int .i64 0)) rfl rfl (by decide) Tryz.underlying30) ⟨hu,.refl _,rfl⟩)
 ·refine ⟨fun _ _ _ _ _ h=>h,fun vals u hu hb=>?_⟩
  obtain ⟨h3,h4,_⟩:=hb
  exact AN.knownE [(13,4,.pointer (some ⟨gk,offk + 0 * 10,none⟩))] ⟨(List.cons.inj h4).1,trivial⟩ (AN.reads ⟨0,[⟨gk,offk + 0 * 10,[.int .i64 k0.op,.int .i64 k0.num,.int .i64 k0.den,.int .i64 k0.mu,.int .i64 k0.hu,.int .i64 k0.du,.string ⟨⟨k0.nm⟩⟩,.int .i64 k0.cnt,.int .i64 k0.md,.slice k0A k0.ks.length k0c],32,false⟩],(0,0),[]⟩ (fun e he=>by rw [List.mem_singleton.1 he]; exact ⟨Nat.lt_of_lt_of_le hgk (K2.B.trans (hu.mono K2.B.size)).size,Af hrowk0 hgk (K2.B.trans (hu.mono K2.B.size))⟩) (.agg ⟨[.int .i64 k0.op,.int .i64 k0.num,.int .i64 k0.den,.int .i64 k0.mu,.int .i64 k0.hu,.int .i64 k0.du,.string ⟨⟨k0.nm⟩⟩,.int .i64 k0.cnt,.int .i64 k0.md,.slice k0A k0.ks.length k0c]⟩) ⟨hu,.refl _,rfl⟩)
 intro vals w2 b2 _ hall
 replace b2:Below w1.heap.size w1 w2:=b2
 obtain ⟨x0,x1,x3,x4,x5,_⟩:=hall
 have K3:=K2.below b2
 refine C0 [(1,.slice p1A l.length p1c),(3,.pointer (some ⟨we.heap.size,0,none⟩)),(5,.pointer (some ⟨we.heap.size + 1,0,none⟩)),(6,.slice none 0 0),(9,vals 0),(10,vals 1),(14,vals 5)] fun E2=>?_
 rw [show vals 0=.agg ⟨[.slice p0aaA p0aan p0aac,.slice p0abA p0abn p0abc,.slice p0acA p0acn p0acc,.slice p0adA p0adn p0adc,.map (some bi),.map (some bs),.map (some bp),.map (some br)]⟩ from (List.cons.inj x0).1]
 rw [show vals 1=.slice p1A l.length p1c from (List.cons.inj x1).1]
 rw [show vals 5=.agg ⟨[.int .i64 k0.op,.int .i64 k0.num,.int .i64 k0.den,.int .i64 k0.mu,.int .i64 k0.hu,.int .i64 k0.du,.string ⟨⟨k0.nm⟩⟩,.int .i64 k0.cnt,.int .i64 k0.md,.slice k0A k0.ks.length k0c]⟩ from (List.cons.inj x5).1]
 have Kf:=(K3.pickL (L':=[(CM p1A p1c l)]++[]) [0] rfl (by decide)).front
 refine FG (i:=6) (ats:=#[75,47,32]) (JM.getD 6 default) 22 [.tmp 9,.tmp 10,.tmp 14] [.agg ⟨[.slice p0aaA p0aan p0aac,.slice p0abA p0abn p0abc,.slice p0acA p0acn p0acc,.slice p0adA p0adn p0adc,.map (some bi),.map (some bs),.map (some bp),.map (some br)]⟩,.slice p1A l.length p1c,.agg ⟨[.int .i64 k0.op,.int .i64 k0.num,.int .i64 k0.den,.int .i64 k0.mu,.int .i64 k0.hu,.int .i64 k0.du,.string ⟨⟨k0.nm⟩⟩,.int .i64 k0.cnt,.int .i64 k0.md,.slice k0A k0.ks.length k0c]⟩] ((hih _ p1A l p1c k0 k0A k0c w2 h_k0 (hgood _ (by simp)) (by ((try simp only [maxLen,DE,List.length_set,List.length_append,List.length_cons,List.length_nil,List.length_singleton]) <;> omega)) K3.B Kf).mono fun en w4 hh=>?_)
 obtain ⟨A3_0,c3_0,rfl,b4,Hn⟩:=hh
 refine ⟨_,rfl,?_⟩
 have K4:=Wk.unfront b4 Hn
 have hq4:=Fg hfl l (k:=k0) (hgood _ (by simp))
 try simp only [DE,List.length_append,List.length_cons,List.length_nil,List.length_singleton] at hq4
 refine DW (i:=7) K4 (JM.getD 7 default) (0,0) (.slice A3_0 ((AE f l k0).length) c3_0) fun w5 K5=>?_
 refine DV ⟨rfl,At.mid ?_⟩
 refine CA BK QD [⟨we.heap.size,0,[.slice p0aaA p0aan p0aac,.slice p0abA p0abn p0abc,.slice p0acA p0acn p0acc,.slice p0adA p0adn p0adc,.map (some bi),.map (some bs),.map (some bp),.map (some br)],75,true⟩,⟨we.heap.size + 1,0,[.int .i64 12,.int .i64 x.num,.int .i64 x.den,.int .i64 x.mu,.int .i64 x.hu,.int .i64 x.du,.string ⟨⟨x.nm⟩⟩,.int .i64 x.cnt,.int .i64 x.md,.slice (some ⟨gk,offk,none⟩) 2 p2c0],32,true⟩,⟨w5.heap.size,0,[.int .i64 17,.int .i64 0,.int .i64 0,.int .i64 0,.int .i64 0,.int .i64 0],53,true⟩] K5 [] fun w6 K6=>?_
 refine CF K6.H (K6.ix 0) (K6.at 0 rfl) (((17,0,0,0,0,0):AJ)) [.int .i64 17,.int .i64 0,.int .i64 0,.int .i64 0,.int .i64 0,.int .i64 0] rfl (w5.heap.size) (K6.ent 2 (by kernel_rfl)) (Ck QD) (by kernel_rfl) (.tmp 18) (.tmp 20) 47 (by kernel_rfl) (by kernel_rfl) (by kernel_rfl) (by decide) (by kernel_rfl) (by kernel_rfl) rfl rfl (by ((try simp only [maxLen,DE,List.length_set,List.length_append,List.length_cons,List.length_nil,List.length_singleton]) <;> omega)) fun A7 c7 w7 Hn b7=>?_
 have K7:=K6.put 0 (by simp) b7 Hn
 refine AC W5 K7 [(1,0)] fun w8 K8=>?_
 refine AK false (fun h=>nomatch h) (fun _=>?_)
 refine Ag 6 ML K8 [] fun w9 K9=>?_
 obtain ⟨k1A,k1c,hrowk1,h_k1⟩:=hallk 1 k1 rfl
 refine DY JL 8 ?_
 refine Ct (i:=2) (v:=.pointer (some ⟨we.heap.size + 1,9,none⟩)) (JL.getD 2 default) (fun _ _ _ h=>nomatch h.1) ?_
 refine Ce (md:=.any) (fuel:=2) (L:=[Ar 0 [] (.agg ⟨[.slice p0aaA p0aan p0aac,.slice p0abA p0abn p0abc,.slice p0acA p0acn p0acc,.slice p0adA p0adn p0adc,.map (some bi),.map (some bs),.map (some bp),.map (some br)]⟩),Ar 1 [] (.slice A7 (((AE f l k0)++[((17,0,0,0,0,0):AJ)]).length) c7),Ar 3 [] (.slice (some ⟨gk,offk,none⟩) 2 p2c0),Ar 4 [3] (.pointer (some ⟨gk,offk + 1 * 10,none⟩)),Ar 5 [3,4] (.agg ⟨[.int .i64 k1.op,.int .i64 k1.num,.int .i64 k1.den,.int .i64 k1.mu,.int .i64 k1.hu,.int .i64 k1.du,.string ⟨⟨k1.nm⟩⟩,.int .i64 k1.cnt,.int .i64 k1.md,.slice k1A k1.ks.length k1c]⟩)]) (W:=eg) (C:=fun u=>Below w9.heap.size w9 u) (Ext:=CQ) (Below.refl _ _).drew CQ.refl (fun _ _ _=>CQ.trans) ⟨?_,?_,?_,?_,?_,trivial⟩ rfl ?_
 ·refine ⟨fun _ _ _ _ _ h=>h,fun vals u hu hb=>?_⟩
  exact AN.knownE [] trivial (AN.reads ⟨0,_,(0,0),[]⟩ (Au K9.G hu) (.agg ⟨[.slice p0aaA p0aan p0aac,.slice p0abA p0abn p0abc,.slice p0acA p0acn p0acc,.slice p0adA p0adn p0adc,.map (some bi),.map (some bs),.map (some bp),.map (some br)]⟩) ⟨hu,.refl _,rfl⟩)
 ·refine ⟨fun _ _ _ _ _ h=>h,fun vals u hu hb=>?_⟩
  exact AN.knownE [] trivial (AN.reads ⟨0,[],(0,0),[]⟩ (fun e he=>by cases he) (.slice A7 (((AE f l k0)++[((17,0,0,0,0,0):AJ)]).length) c7) ⟨hu,.refl _,rfl⟩)
 ·refine ⟨fun _ _ _ _ _ h=>h,fun vals u hu hb=>?_⟩
  exact AN.knownE [] trivial (AN.reads ⟨0,_,(1,9),[]⟩ (Au K9.G hu) (.slice (some ⟨gk,offk,none⟩) 2 p2c0) ⟨hu,.refl _,rfl⟩)
 ·refine ⟨fun _ _ _ _ _ h=>h,fun vals u hu hb=>?_⟩
  obtain ⟨h3,_⟩:=hb
  exact AN.knownE [(32,3,.slice (some ⟨gk,offk,none⟩) 2 p2c0)] ⟨(List.cons.inj h3).1,trivial⟩ (AN.value (Cd (sz:=10) (cap:=p2c0) 30 (.tmp 32) (.const (.int .i64 1)) rfl rfl (by decide) Tryz.underlying30) ⟨hu,.refl _,rfl⟩)
 ·refine ⟨fun _ _ _ _ _ h=>h,fun vals u hu hb=>?_⟩
  obtain ⟨h3,h4,_⟩:=hb
  exact AN.knownE [(33,4,.pointer (some ⟨gk,offk + 1 * 10,none⟩))] ⟨(List.cons.inj h4).1,trivial⟩ (AN.reads ⟨0,[⟨gk,offk + 1 * 10,[.int .i64 k1.op,.int .i64 k1.num,.int .i64 k1.den,.int .i64 k1.mu,.int .i64 k1.hu,.int .i64 k1.du,.string ⟨⟨k1.nm⟩⟩,.int .i64 k1.cnt,.int .i64 k1.md,.slice k1A k1.ks.length k1c],32,false⟩],(0,0),[]⟩ (fun e he=>by rw [List.mem_singleton.1 he]; exact ⟨Nat.lt_of_lt_of_le hgk (K9.B.trans (hu.mono K9.B.size)).size,Af hrowk1 hgk (K9.B.trans (hu.mono K9.B.size))⟩) (.agg ⟨[.int .i64 k1.op,.int .i64 k1.num,.int .i64 k1.den,.int .i64 k1.mu,.int .i64 k1.hu,.int .i64 k1.du,.string ⟨⟨k1.nm⟩⟩,.int .i64 k1.cnt,.int .i64 k1.md,.slice k1A k1.ks.length k1c]⟩) ⟨hu,.refl _,rfl⟩)
 intro vals w10 b10 _ hall
 replace b10:Below w9.heap.size w9 w10:=b10
 obtain ⟨x0,x1,x3,x4,x5,_⟩:=hall
 have K10:=K9.below b10
 refine C0 [(1,.slice A7 (((AE f l k0)++[((17,0,0,0,0,0):AJ)]).length) c7),(3,.pointer (some ⟨we.heap.size,0,none⟩)),(5,.pointer (some ⟨we.heap.size + 1,0,none⟩)),(6,.slice none 0 0),(7,.int .i64 (((AE f l k0).length:Int))),(29,vals 0),(30,vals 1),(34,vals 5)] fun E10=>?_
 rw [show vals 0=.agg ⟨[.slice p0aaA p0aan p0aac,.slice p0abA p0abn p0abc,.slice p0acA p0acn p0acc,.slice p0adA p0adn p0adc,.map (some bi),.map (some bs),.map (some bp),.map (some br)]⟩ from (List.cons.inj x0).1]
 rw [show vals 1=.slice A7 (((AE f l k0)++[((17,0,0,0,0,0):AJ)]).length) c7 from (List.cons.inj x1).1]
 rw [show vals 5=.agg ⟨[.int .i64 k1.op,.int .i64 k1.num,.int .i64 k1.den,.int .i64 k1.mu,.int .i64 k1.hu,.int .i64 k1.du,.string ⟨⟨k1.nm⟩⟩,.int .i64 k1.cnt,.int .i64 k1.md,.slice k1A k1.ks.length k1c]⟩ from (List.cons.inj x5).1]
 have Kf:=(K10.pickL (L':=[(CM A7 c7 ((AE f l k0)++[((17,0,0,0,0,0):AJ)]))]++[]) [0] rfl (by decide)).front
 refine FG (i:=6) (ats:=#[75,47,32]) (JL.getD 6 default) 22 [.tmp 29,.tmp 30,.tmp 34] [.agg ⟨[.slice p0aaA p0aan p0aac,.slice p0abA p0abn p0abc,.slice p0acA p0acn p0acc,.slice p0adA p0adn p0adc,.map (some bi),.map (some bs),.map (some bp),.map (some br)]⟩,.slice A7 (((AE f l k0)++[((17,0,0,0,0,0):AJ)]).length) c7,.agg ⟨[.int .i64 k1.op,.int .i64 k1.num,.int .i64 k1.den,.int .i64 k1.mu,.int .i64 k1.hu,.int .i64 k1.du,.string ⟨⟨k1.nm⟩⟩,.int .i64 k1.cnt,.int .i64 k1.md,.slice k1A k1.ks.length k1c]⟩] ((hih _ A7 ((AE f l k0)++[((17,0,0,0,0,0):AJ)]) c7 k1 k1A k1c w10 h_k1 (hgood _ (by simp)) (by ((try simp only [maxLen,DE,List.length_set,List.length_append,List.length_cons,List.length_nil,List.length_singleton]) <;> omega)) K10.B Kf).mono fun en w12 hh=>?_)
 obtain ⟨A11_0,c11_0,rfl,b12,Hn⟩:=hh
 refine ⟨_,rfl,?_⟩
 have K11:=Wk.unfront b12 Hn
 have hq5:=Fg hfl ((AE f l k0)++[((17,0,0,0,0,0):AJ)]) (k:=k1) (hgood _ (by simp))
 try simp only [DE,List.length_append,List.length_cons,List.length_nil,List.length_singleton] at hq5
 refine DW (i:=7) K11 (JL.getD 7 default) (0,0) (.slice A11_0 (((AE f ((AE f l k0)++[((17,0,0,0,0,0):AJ)]) k1)).length) c11_0) fun w13 K12=>?_
 refine DV ⟨rfl,At.mid ?_⟩
 refine CA BK MK [⟨we.heap.size,0,[.slice p0aaA p0aan p0aac,.slice p0abA p0abn p0abc,.slice p0acA p0acn p0acc,.slice p0adA p0adn p0adc,.map (some bi),.map (some bs),.map (some bp),.map (some br)],75,true⟩,⟨we.heap.size + 1,0,[.int .i64 12,.int .i64 x.num,.int .i64 x.den,.int .i64 x.mu,.int .i64 x.hu,.int .i64 x.du,.string ⟨⟨x.nm⟩⟩,.int .i64 x.cnt,.int .i64 x.md,.slice (some ⟨gk,offk,none⟩) 2 p2c0],32,true⟩,⟨w5.heap.size,0,[.int .i64 17,.int .i64 0,.int .i64 0,.int .i64 0,.int .i64 0,.int .i64 0],53,true⟩,⟨w13.heap.size,0,[.int .i64 16,.int .i64 0,.int .i64 0,.int .i64 0,.int .i64 0,.int .i64 0],53,true⟩] K12 [] fun w14 K13=>?_
 refine CF K13.H (K13.ix 0) (K13.at 0 rfl) (((16,0,0,0,0,0):AJ)) [.int .i64 16,.int .i64 0,.int .i64 0,.int .i64 0,.int .i64 0,.int .i64 0] rfl (w13.heap.size) (K13.ent 3 (by kernel_rfl)) (Ck MK) (by kernel_rfl) (.tmp 38) (.tmp 40) 47 (by kernel_rfl) (by kernel_rfl) (by kernel_rfl) (by decide) (by kernel_rfl) (by kernel_rfl) rfl rfl (by ((try simp only [maxLen,DE,List.length_set,List.length_append,List.length_cons,List.length_nil,List.length_singleton]) <;> omega)) fun A15 c15 w15 Hn b15=>?_
 have K14:=K13.put 0 (by simp) b15 Hn
 obtain ⟨gB0,rfl,hB0g⟩:=K14.H.rowAt (K14.ix 0) (K14.at 0 rfl) (by ((try simp only [maxLen,DE,List.length_set,List.length_append,List.length_cons,List.length_nil,List.length_singleton]) <;> omega))
 have hd0:(((AE f ((AE f l k0)++[((17,0,0,0,0,0):AJ)]) k1))++[((16,0,0,0,0,0):AJ)])[(AE f l k0).length]?=some ((((AE f ((AE f l k0)++[((17,0,0,0,0,0):AJ)]) k1))++[((16,0,0,0,0,0):AJ)]).getD (AE f l k0).length default):=getD_some default (by ((try simp only [maxLen,DE,List.length_set,List.length_append,List.length_cons,List.length_nil,List.length_singleton]) <;> omega))
 refine BA Ae QC K14 [] fun w16 K15=>?_
 refine BB (g:=gB0) (off:=0) (cap:=c15) (sz:=6) (k:=((AE f l k0).length)) (len:=(((AE f ((AE f l k0)++[((17,0,0,0,0,0):AJ)]) k1))++[((16,0,0,0,0,0):AJ)]).length) (some 46) (by ((try simp only [maxLen,DE,List.length_set,List.length_append,List.length_cons,List.length_nil,List.length_singleton]) <;> omega)) Tryz.underlying47 ?_
 refine BA F9 W4 K15 [] fun w17 K16=>?_
 refine Ej K16.H (K16.ix 0) (K16.at 0 rfl) ((AE f l k0).length) ((((AE f ((AE f l k0)++[((17,0,0,0,0,0):AJ)]) k1))++[((16,0,0,0,0,0):AJ)]).getD ((AE f l k0).length) default) hd0 1 (by decide) (.int .i64 (((((AE f ((AE f l k0)++[((17,0,0,0,0,0):AJ)]) k1))++[((16,0,0,0,0,0):AJ)]).length:Int))) (fun r h=>by rw [h]; rfl) (fun _ _ h=>by rw [h]; rfl) 3 none (by kernel_rfl) (by kernel_rfl) rfl rfl (fun w18 Hn b18 Z18=>?_) (e':=(((((AE f ((AE f l k0)++[((17,0,0,0,0,0):AJ)]) k1))++[((16,0,0,0,0,0):AJ)]).getD ((AE f l k0).length) default).1,((((AE f ((AE f l k0)++[((17,0,0,0,0,0):AJ)]) k1))++[((16,0,0,0,0,0):AJ)]).length:Int),((((AE f ((AE f l k0)++[((17,0,0,0,0,0):AJ)]) k1))++[((16,0,0,0,0,0):AJ)]).getD ((AE f l k0).length) default).2.2))
 have K17:=K16.put 0 (by simp) b18 Hn
 refine FF [(1,.slice (some ⟨gB0,0,none⟩) ((Al (((AE f ((AE f l k0)++[((17,0,0,0,0,0):AJ)]) k1))++[((16,0,0,0,0,0):AJ)]) ((AE f l k0).length) (((((AE f ((AE f l k0)++[((17,0,0,0,0,0):AJ)]) k1))++[((16,0,0,0,0,0):AJ)]).length:Int))).length) c15),(3,.pointer (some ⟨we.heap.size,0,none⟩)),(5,.pointer (some ⟨we.heap.size + 1,0,none⟩)),(6,.slice none 0 0),(8,.int .i64 ((((AE f ((AE f l k0)++[((17,0,0,0,0,0):AJ)]) k1)).length:Int)))] (by simp only [DE]; kernel_rfl) fun E18=>?_
 refine AC W3 K17 [(1,0)] fun w19 K18=>?_
 refine AK true (fun _=>?_) (fun h=>nomatch h)
 refine AC QB K18 [] fun w20 K19=>?_
 refine Ak K19 (LR 0 w20) fun w21 K20=>?_
 refine CA BK MJ [⟨we.heap.size,0,[.slice p0aaA p0aan p0aac,.slice p0abA p0abn p0abc,.slice p0acA p0acn p0acc,.slice p0adA p0adn p0adc,.map (some bi),.map (some bs),.map (some bp),.map (some br)],75,true⟩,⟨we.heap.size + 1,0,[.int .i64 12,.int .i64 x.num,.int .i64 x.den,.int .i64 x.mu,.int .i64 x.hu,.int .i64 x.du,.string ⟨⟨x.nm⟩⟩,.int .i64 x.cnt,.int .i64 x.md,.slice (some ⟨gk,offk,none⟩) 2 p2c0],32,true⟩,⟨w5.heap.size,0,[.int .i64 17,.int .i64 0,.int .i64 0,.int .i64 0,.int .i64 0,.int .i64 0],53,true⟩,⟨w13.heap.size,0,[.int .i64 16,.int .i64 0,.int .i64 0,.int .i64 0,.int .i64 0,.int .i64 0],53,true⟩,⟨w21.heap.size,0,[.int .i64 ((AX 0).1),.int .i64 ((AX 0).2.1),.int .i64 ((AX 0).2.2.1),.int .i64 ((AX 0).2.2.2.1),.int .i64 ((AX 0).2.2.2.2.1),.int .i64 ((AX 0).2.2.2.2.2)],53,true⟩] K20 [] fun w22 K21=>?_
 refine CF K21.H (K21.ix 0) (K21.at 0 rfl) (AX 0) [.int .i64 ((AX 0).1),.int .i64 ((AX 0).2.1),.int .i64 ((AX 0).2.2.1),.int .i64 ((AX 0).2.2.2.1),.int .i64 ((AX 0).2.2.2.2.1),.int .i64 ((AX 0).2.2.2.2.2)] rfl (w21.heap.size) (K21.ent 4 (by kernel_rfl)) (Ck MJ) (by kernel_rfl) (.tmp 59) (.tmp 61) 47 (by kernel_rfl) (by kernel_rfl) (by kernel_rfl) (by decide) (by kernel_rfl) (by kernel_rfl) rfl rfl (by ((try simp only [maxLen,DE,List.length_set,List.length_append,List.length_cons,List.length_nil,List.length_singleton]) <;> omega)) fun A23 c23 w23 Hn b23=>?_
 have K22:=K21.put 0 (by simp) b23 Hn
 obtain ⟨gB1,rfl,hB1g⟩:=K22.H.rowAt (K22.ix 0) (K22.at 0 rfl) (by ((try simp only [maxLen,DE,List.length_set,List.length_append,List.length_cons,List.length_nil,List.length_singleton]) <;> omega))
 have hd1:((Al (((AE f ((AE f l k0)++[((17,0,0,0,0,0):AJ)]) k1))++[((16,0,0,0,0,0):AJ)]) ((AE f l k0).length) (((((AE f ((AE f l k0)++[((17,0,0,0,0,0):AJ)]) k1))++[((16,0,0,0,0,0):AJ)]).length:Int)))++[(AX 0)])[((AE f ((AE f l k0)++[((17,0,0,0,0,0):AJ)]) k1)).length]?=some (((Al (((AE f ((AE f l k0)++[((17,0,0,0,0,0):AJ)]) k1))++[((16,0,0,0,0,0):AJ)]) ((AE f l k0).length) (((((AE f ((AE f l k0)++[((17,0,0,0,0,0):AJ)]) k1))++[((16,0,0,0,0,0):AJ)]).length:Int)))++[(AX 0)]).getD ((AE f ((AE f l k0)++[((17,0,0,0,0,0):AJ)]) k1)).length default):=getD_some default (by ((try simp only [maxLen,DE,List.length_set,List.length_append,List.length_cons,List.length_nil,List.length_singleton]) <;> omega))
 refine BA Ae NK K22 [] fun w24 K23=>?_
 refine BB (g:=gB1) (off:=0) (cap:=c23) (sz:=6) (k:=(((AE f ((AE f l k0)++[((17,0,0,0,0,0):AJ)]) k1)).length)) (len:=((Al (((AE f ((AE f l k0)++[((17,0,0,0,0,0):AJ)]) k1))++[((16,0,0,0,0,0):AJ)]) ((AE f l k0).length) (((((AE f ((AE f l k0)++[((17,0,0,0,0,0):AJ)]) k1))++[((16,0,0,0,0,0):AJ)]).length:Int)))++[(AX 0)]).length) (some 76) (by ((try simp only [maxLen,DE,List.length_set,List.length_append,List.length_cons,List.length_nil,List.length_singleton]) <;> omega)) Tryz.underlying47 ?_
 refine BA F9 R1 K23 [] fun w25 K24=>?_
 refine Ej K24.H (K24.ix 0) (K24.at 0 rfl) (((AE f ((AE f l k0)++[((17,0,0,0,0,0):AJ)]) k1)).length) (((Al (((AE f ((AE f l k0)++[((17,0,0,0,0,0):AJ)]) k1))++[((16,0,0,0,0,0):AJ)]) ((AE f l k0).length) (((((AE f ((AE f l k0)++[((17,0,0,0,0,0):AJ)]) k1))++[((16,0,0,0,0,0):AJ)]).length:Int)))++[(AX 0)]).getD (((AE f ((AE f l k0)++[((17,0,0,0,0,0):AJ)]) k1)).length) default) hd1 1 (by decide) (.int .i64 ((((Al (((AE f ((AE f l k0)++[((17,0,0,0,0,0):AJ)]) k1))++[((16,0,0,0,0,0):AJ)]) ((AE f l k0).length) (((((AE f ((AE f l k0)++[((17,0,0,0,0,0):AJ)]) k1))++[((16,0,0,0,0,0):AJ)]).length:Int)))++[(AX 0)]).length:Int))) (fun r h=>by rw [h]; rfl) (fun _ _ h=>by rw [h]; rfl) 3 none (by kernel_rfl) (by kernel_rfl) rfl rfl (fun w26 Hn b26 Z26=>?_) (e':=((((Al (((AE f ((AE f l k0)++[((17,0,0,0,0,0):AJ)]) k1))++[((16,0,0,0,0,0):AJ)]) ((AE f l k0).length) (((((AE f ((AE f l k0)++[((17,0,0,0,0,0):AJ)]) k1))++[((16,0,0,0,0,0):AJ)]).length:Int)))++[(AX 0)]).getD (((AE f ((AE f l k0)++[((17,0,0,0,0,0):AJ)]) k1)).length) default).1,(((Al (((AE f ((AE f l k0)++[((17,0,0,0,0,0):AJ)]) k1))++[((16,0,0,0,0,0):AJ)]) ((AE f l k0).length) (((((AE f ((AE f l k0)++[((17,0,0,0,0,0):AJ)]) k1))++[((16,0,0,0,0,0):AJ)]).length:Int)))++[(AX 0)]).length:Int),(((Al (((AE f ((AE f l k0)++[((17,0,0,0,0,0):AJ)]) k1))++[((16,0,0,0,0,0):AJ)]) ((AE f l k0).length) (((((AE f ((AE f l k0)++[((17,0,0,0,0,0):AJ)]) k1))++[((16,0,0,0,0,0):AJ)]).length:Int)))++[(AX 0)]).getD (((AE f ((AE f l k0)++[((17,0,0,0,0,0):AJ)]) k1)).length) default).2.2))
 have K25:=K24.put 0 (by simp) b26 Hn
 refine FF [(1,.slice (some ⟨gB1,0,none⟩) ((Al ((Al (((AE f ((AE f l k0)++[((17,0,0,0,0,0):AJ)]) k1))++[((16,0,0,0,0,0):AJ)]) ((AE f l k0).length) (((((AE f ((AE f l k0)++[((17,0,0,0,0,0):AJ)]) k1))++[((16,0,0,0,0,0):AJ)]).length:Int)))++[(AX 0)]) (((AE f ((AE f l k0)++[((17,0,0,0,0,0):AJ)]) k1)).length) ((((Al (((AE f ((AE f l k0)++[((17,0,0,0,0,0):AJ)]) k1))++[((16,0,0,0,0,0):AJ)]) ((AE f l k0).length) (((((AE f ((AE f l k0)++[((17,0,0,0,0,0):AJ)]) k1))++[((16,0,0,0,0,0):AJ)]).length:Int)))++[(AX 0)]).length:Int))).length) c23),(6,.slice none 0 0)] (by simp only [DE]; kernel_rfl) fun E26=>?_
 refine AC em K25 [] fun w27 K26=>?_
 have hS:(GM f l k0 k1)=Al ((Al (((AE f ((AE f l k0)++[((17,0,0,0,0,0):AJ)]) k1))++[((16,0,0,0,0,0):AJ)]) ((AE f l k0).length) (((((AE f ((AE f l k0)++[((17,0,0,0,0,0):AJ)]) k1))++[((16,0,0,0,0,0):AJ)]).length:Int)))++[(AX 0)]) (((AE f ((AE f l k0)++[((17,0,0,0,0,0):AJ)]) k1)).length) ((((Al (((AE f ((AE f l k0)++[((17,0,0,0,0,0):AJ)]) k1))++[((16,0,0,0,0,0):AJ)]) ((AE f l k0).length) (((((AE f ((AE f l k0)++[((17,0,0,0,0,0):AJ)]) k1))++[((16,0,0,0,0,0):AJ)]).length:Int)))++[(AX 0)]).length:Int)):=by unfold GM; rfl
 exact Aa K26 (0,0) (.slice (some ⟨gB1,0,none⟩) ((Al ((Al (((AE f ((AE f l k0)++[((17,0,0,0,0,0):AJ)]) k1))++[((16,0,0,0,0,0):AJ)]) ((AE f l k0).length) (((((AE f ((AE f l k0)++[((17,0,0,0,0,0):AJ)]) k1))++[((16,0,0,0,0,0):AJ)]).length:Int)))++[(AX 0)]) (((AE f ((AE f l k0)++[((17,0,0,0,0,0):AJ)]) k1)).length) ((((Al (((AE f ((AE f l k0)++[((17,0,0,0,0,0):AJ)]) k1))++[((16,0,0,0,0,0):AJ)]) ((AE f l k0).length) (((((AE f ((AE f l k0)++[((17,0,0,0,0,0):AJ)]) k1))++[((16,0,0,0,0,0):AJ)]).length:Int)))++[(AX 0)]).length:Int))).length) c23) ⟨(some ⟨gB1,0,none⟩),c23,by rw [hS] <;> rfl,K26.B,by rw [hS]; exact K26.own [0] rfl (by decide)⟩
def Gr (f:Ex→Nat→List AJ) (l:List AJ) (k0:Ex) (k1:Ex):List AJ:=Al ((AE f (Al ((((AE f l k0)++[((17,0,0,0,0,0):AJ)])++[(AX 1)])++[((16,0,0,0,0,0):AJ)]) ((AE f l k0).length) ((((((AE f l k0)++[((17,0,0,0,0,0):AJ)])++[(AX 1)])++[((16,0,0,0,0,0):AJ)]).length:Int))) k1)) ((((AE f l k0)++[((17,0,0,0,0,0):AJ)])++[(AX 1)]).length) ((((AE f (Al ((((AE f l k0)++[((17,0,0,0,0,0):AJ)])++[(AX 1)])++[((16,0,0,0,0,0):AJ)]) ((AE f l k0).length) ((((((AE f l k0)++[((17,0,0,0,0,0):AJ)])++[(AX 1)])++[((16,0,0,0,0,0):AJ)]).length:Int))) k1)).length:Int))
noncomputable def SV:Code:=Tryz.f54.body.getD .skip
def Ou:List Item:=Ac 1 ([.code SV])
def KY:Array Oper:=(Cs Ou).getD #[]
def fQ:Wr:=[(9,0),(10,1),(12,3),(13,4),(14,5)]
def VC:List Item:=AB (As BK 90 (AO Ou)) (AO Ou)
def d8:List Item:=AB 60 (AF VC)
def VB:List Item:=AB 60 (AG d8)
def Ot:List Item:=AB (As BK 90 (AF VB)) (AF VB)
def Oq:List Item:=AB (As BK 90 (AF Ot)) (AF Ot)
def VA:List Item:=AB (As Ae 90 (AF Oq)) (AF Oq)
def d7:List Item:=AB (As F9 90 (AF VA)) (AF VA)
def d6:List Item:=AB 60 (AF d7)
def d5:List Item:=AB 60 (AL d6)
def MI:List Item:=Ac 15 (AG d5)
def JJ:Array Oper:=(Cs MI).getD #[]
def ee:Wr:=[(65,0),(66,1),(68,3),(69,4),(70,5)]
def P9:List Item:=AB (As Ae 90 (AO MI)) (AO MI)
def W1:List Item:=AB (As F9 90 (AF P9)) (AF P9)
def j2:List Item:=AB 60 (AF W1)
theorem RJ (L:List Th) (f:Ex→Nat→List AJ) (p0aaA:Option Addr) (p0aan:Nat) (p0aac:Nat) (p0abA:Option Addr) (p0abn:Nat) (p0abc:Nat) (p0acA:Option Addr) (p0acn:Nat) (p0acc:Nat) (p0adA:Option Addr) (p0adn:Nat) (p0adc:Nat) (bi:Nat) (mi:List (List UInt8×Int)) (bs:Nat) (ms:List (List UInt8×Int)) (bp:Nat) (mp:List (List UInt8×Int)) (br:Nat) (mr:List (List UInt8×Int)) (p1A:Option Addr) (l:List AJ) (p1c:Nat) (x:Ex) (p2A0:Option Addr) (k0:Ex) (k1:Ex) (p2c0:Nat) (w we:World) (hm_mi:AZ.at BC bi mi w) (hm_ms:AZ.at BC bs ms w) (hm_mp:AZ.at BC bp mp w) (hm_mr:AZ.at BC br mr w) (h_x0:rowsEx w p2A0 [k0,k1]) (hih:∀ (L:List Th) (p1A:Option Addr) (l:List AJ) (p1c:Nat) (x':Ex) (p2A0:Option Addr) (p2c0:Nat) (we:World),rowsEx w p2A0 x'.ks→Cg x'→l.length + 4 * nE x'≤400000000→Below w.heap.size w we→AY w.heap.size we ([CM p1A p1c l]++L)→Calls Tryz.prog 22 ([.agg ⟨[.slice p0aaA p0aan p0aac,.slice p0abA p0abn p0abc,.slice p0acA p0acn p0acc,.slice p0adA p0adn p0adc,.map (some bi),.map (some bs),.map (some bp),.map (some br)]⟩,.slice p1A l.length p1c,.agg ⟨Bo x' p2A0 p2c0⟩]:List Value).toArray we fun e w'=>∃ (rA0:Option Addr) (rc0:Nat),e=.returned (.slice rA0 (AE f l x').length rc0)∧Below w.heap.size w w'∧AY w.heap.size w' ([CM rA0 rc0 (AE f l x')]++L)) (hgood:∀ k∈[k0,k1],Cg k) (hfl:∀ k n,Cg k→(f k n).length≤4 * nE k) (hb:l.length + 4 * (nE k0 + nE k1) + 4≤400000000) (B:Below w.heap.size w we) (H:AY w.heap.size we ([(CM p1A p1c l)]++L)):Calls Tryz.prog 54 ([.agg ⟨[.slice p0aaA p0aan p0aac,.slice p0abA p0abn p0abc,.slice p0acA p0acn p0acc,.slice p0adA p0adn p0adc,.map (some bi),.map (some bs),.map (some bp),.map (some br)]⟩,.slice p1A l.length p1c,.agg ⟨[.int .i64 13,.int .i64 x.num,.int .i64 x.den,.int .i64 x.mu,.int .i64 x.hu,.int .i64 x.du,.string ⟨⟨x.nm⟩⟩,.int .i64 x.cnt,.int .i64 x.md,.slice p2A0 2 p2c0]⟩]:List Value).toArray we fun e w'=>∃ (rA0:Option Addr) (rc0:Nat),e=.returned (.slice rA0 ((Gr f l k0 k1).length) rc0)∧Below w.heap.size w w'∧AY w.heap.size w' ([CM rA0 rc0 (Gr f l k0 k1)]++L):=by
 refine Ab (fn:=Tryz.f54) (c:=SV) (n:=79) ?_
 have K1:Wk w we [] [(CM p1A p1c l)] L:=⟨B,H⟩
 clear B H
 refine Bw 1 Ou [⟨we.heap.size,0,[.slice p0aaA p0aan p0aac,.slice p0abA p0abn p0abc,.slice p0acA p0acn p0acc,.slice p0adA p0adn p0adc,.map (some bi),.map (some bs),.map (some bp),.map (some br)],75,true⟩,⟨we.heap.size + 1,0,[.int .i64 13,.int .i64 x.num,.int .i64 x.den,.int .i64 x.mu,.int .i64 x.hu,.int .i64 x.du,.string ⟨⟨x.nm⟩⟩,.int .i64 x.cnt,.int .i64 x.md,.slice p2A0 2 p2c0],32,true⟩] K1 [] fun w1 K2=>?_
 obtain ⟨gk,offk,rfl,hgk,hallk⟩:=h_x0.all (by simp)
 obtain ⟨k0A,k0c,hrowk0,h_k0⟩:=hallk 0 k0 rfl
 refine DY KY 8 ?_
 refine Ct (i:=2) (v:=.pointer (some ⟨we.heap.size + 1,9,none⟩)) (KY.getD 2 default) (fun _ _ _ h=>nomatch h.1) ?_
 refine Ce (md:=.any) (fuel:=2) (L:=[Ar 0 [] (.agg ⟨[.slice p0aaA p0aan p0aac,.slice p0abA p0abn p0abc,.slice p0acA p0acn p0acc,.slice p0adA p0adn p0adc,.map (some bi),.map (some bs),.map (some bp),.map (some br)]⟩),Ar 1 [] (.slice p1A l.length p1c),Ar 3 [] (.slice (some ⟨gk,offk,none⟩) 2 p2c0),Ar 4 [3] (.pointer (some ⟨gk,offk + 0 * 10,none⟩)),Ar 5 [3,4] (.agg ⟨[.int .i64 k0.op,.int .i64 k0.num,.int .i64 k0.den,.int .i64 k0.mu,.int .i64 k0.hu,.int .i64 k0.du,.string ⟨⟨k0.nm⟩⟩,.int .i64 k0.cnt,.int .i64 k0.md,.slice k0A k0.ks.length k0c]⟩)]) (W:=fQ) (C:=fun u=>Below w1.heap.size w1 u) (Ext:=CQ) (Below.refl _ _).drew CQ.refl (fun _ _ _=>CQ.trans) ⟨?_,?_,?_,?_,?_,trivial⟩ rfl ?_
 ·refine ⟨fun _ _ _ _ _ h=>h,fun vals u hu hb=>?_⟩
  exact AN.knownE [] trivial (AN.reads ⟨0,_,(0,0),[]⟩ (Au K2.G hu) (.agg ⟨[.slice p0aaA p0aan p0aac,.slice p0abA p0abn p0abc,.slice p0acA p0acn p0acc,.slice p0adA p0adn p0adc,.map (some bi),.map (some bs),.map (some bp),.map (some br)]⟩) ⟨hu,.refl _,rfl⟩)
 ·refine ⟨fun _ _ _ _ _ h=>h,fun vals u hu hb=>?_⟩
  exact AN.knownE [] trivial (AN.reads ⟨0,[],(0,0),[]⟩ (fun e he=>by cases he) (.slice p1A l.length p1c) ⟨hu,.refl _,rfl⟩)
 ·refine ⟨fun _ _ _ _ _ h=>h,fun vals u hu hb=>?_⟩
  exact AN.knownE [] trivial (AN.reads ⟨0,_,(1,9),[]⟩ (Au K2.G hu) (.slice (some ⟨gk,offk,none⟩) 2 p2c0) ⟨hu,.refl _,rfl⟩)
 ·refine ⟨fun _ _ _ _ _ h=>h,fun vals u hu hb=>?_⟩
  obtain ⟨h3,_⟩:=hb
  exact AN.knownE [(12,3,.slice (some ⟨gk,offk,none⟩) 2 p2c0)] ⟨(List.cons.inj h3).1,trivial⟩ (AN.value (Cd (sz:=10) (cap:=p2c0) 30 (.tmp 12) (.const (.int .i64 0)) rfl rfl (by decide) Tryz.underlying30) ⟨hu,.refl _,rfl⟩)
 ·refine ⟨fun _ _ _ _ _ h=>h,fun vals u hu hb=>?_⟩
  obtain ⟨h3,h4,_⟩:=hb
  exact AN.knownE [(13,4,.pointer (some ⟨gk,offk + 0 * 10,none⟩))] ⟨(List.cons.inj h4).1,trivial⟩ (AN.reads ⟨0,[⟨gk,offk + 0 * 10,[.int .i64 k0.op,.int .i64 k0.num,.int .i64 k0.den,.int .i64 k0.mu,.int .i64 k0.hu,.int .i64 k0.du,.string ⟨⟨k0.nm⟩⟩,.int .i64 k0.cnt,.int .i64 k0.md,.slice k0A k0.ks.length k0c],32,false⟩],(0,0),[]⟩ (fun e he=>by rw [List.mem_singleton.1 he]; exact ⟨Nat.lt_of_lt_of_le hgk (K2.B.trans (hu.mono K2.B.size)).size,Af hrowk0 hgk (K2.B.trans (hu.mono K2.B.size))⟩) (.agg ⟨[.int .i64 k0.op,.int .i64 k0.num,.int .i64 k0.den,.int .i64 k0.mu,.int .i64 k0.hu,.int .i64 k0.du,.string ⟨⟨k0.nm⟩⟩,.int .i64 k0.cnt,.int .i64 k0.md,.slice k0A k0.ks.length k0c]⟩) ⟨hu,.refl _,rfl⟩)
 intro vals w2 b2 _ hall
 replace b2:Below w1.heap.size w1 w2:=b2
 obtain ⟨x0,x1,x3,x4,x5,_⟩:=hall
 have K3:=K2.below b2
 refine C0 [(1,.slice p1A l.length p1c),(3,.pointer (some ⟨we.heap.size,0,none⟩)),(5,.pointer (some ⟨we.heap.size + 1,0,none⟩)),(6,.slice none 0 0),(9,vals 0),(10,vals 1),(14,vals 5)] fun E2=>?_
 rw [show vals 0=.agg ⟨[.slice p0aaA p0aan p0aac,.slice p0abA p0abn p0abc,.slice p0acA p0acn p0acc,.slice p0adA p0adn p0adc,.map (some bi),.map (some bs),.map (some bp),.map (some br)]⟩ from (List.cons.inj x0).1]
 rw [show vals 1=.slice p1A l.length p1c from (List.cons.inj x1).1]
 rw [show vals 5=.agg ⟨[.int .i64 k0.op,.int .i64 k0.num,.int .i64 k0.den,.int .i64 k0.mu,.int .i64 k0.hu,.int .i64 k0.du,.string ⟨⟨k0.nm⟩⟩,.int .i64 k0.cnt,.int .i64 k0.md,.slice k0A k0.ks.length k0c]⟩ from (List.cons.inj x5).1]
 have Kf:=(K3.pickL (L':=[(CM p1A p1c l)]++[]) [0] rfl (by decide)).front
 refine FG (i:=6) (ats:=#[75,47,32]) (KY.getD 6 default) 22 [.tmp 9,.tmp 10,.tmp 14] [.agg ⟨[.slice p0aaA p0aan p0aac,.slice p0abA p0abn p0abc,.slice p0acA p0acn p0acc,.slice p0adA p0adn p0adc,.map (some bi),.map (some bs),.map (some bp),.map (some br)]⟩,.slice p1A l.length p1c,.agg ⟨[.int .i64 k0.op,.int .i64 k0.num,.int .i64 k0.den,.int .i64 k0.mu,.int .i64 k0.hu,.int .i64 k0.du,.string ⟨⟨k0.nm⟩⟩,.int .i64 k0.cnt,.int .i64 k0.md,.slice k0A k0.ks.length k0c]⟩] ((hih _ p1A l p1c k0 k0A k0c w2 h_k0 (hgood _ (by simp)) (by ((try simp only [maxLen,DE,List.length_set,List.length_append,List.length_cons,List.length_nil,List.length_singleton]) <;> omega)) K3.B Kf).mono fun en w4 hh=>?_)
 obtain ⟨A3_0,c3_0,rfl,b4,Hn⟩:=hh
 refine ⟨_,rfl,?_⟩
 have K4:=Wk.unfront b4 Hn
 have hq6:=Fg hfl l (k:=k0) (hgood _ (by simp))
 try simp only [DE,List.length_append,List.length_cons,List.length_nil,List.length_singleton] at hq6
 refine DW (i:=7) K4 (KY.getD 7 default) (0,0) (.slice A3_0 ((AE f l k0).length) c3_0) fun w5 K5=>?_
 refine DV ⟨rfl,At.mid ?_⟩
 refine CA BK VC [⟨we.heap.size,0,[.slice p0aaA p0aan p0aac,.slice p0abA p0abn p0abc,.slice p0acA p0acn p0acc,.slice p0adA p0adn p0adc,.map (some bi),.map (some bs),.map (some bp),.map (some br)],75,true⟩,⟨we.heap.size + 1,0,[.int .i64 13,.int .i64 x.num,.int .i64 x.den,.int .i64 x.mu,.int .i64 x.hu,.int .i64 x.du,.string ⟨⟨x.nm⟩⟩,.int .i64 x.cnt,.int .i64 x.md,.slice (some ⟨gk,offk,none⟩) 2 p2c0],32,true⟩,⟨w5.heap.size,0,[.int .i64 17,.int .i64 0,.int .i64 0,.int .i64 0,.int .i64 0,.int .i64 0],53,true⟩] K5 [] fun w6 K6=>?_
 refine CF K6.H (K6.ix 0) (K6.at 0 rfl) (((17,0,0,0,0,0):AJ)) [.int .i64 17,.int .i64 0,.int .i64 0,.int .i64 0,.int .i64 0,.int .i64 0] rfl (w5.heap.size) (K6.ent 2 (by kernel_rfl)) (Ck VC) (by kernel_rfl) (.tmp 18) (.tmp 20) 47 (by kernel_rfl) (by kernel_rfl) (by kernel_rfl) (by decide) (by kernel_rfl) (by kernel_rfl) rfl rfl (by ((try simp only [maxLen,DE,List.length_set,List.length_append,List.length_cons,List.length_nil,List.length_singleton]) <;> omega)) fun A7 c7 w7 Hn b7=>?_
 have K7:=K6.put 0 (by simp) b7 Hn
 refine AC d8 K7 [(1,0)] fun w8 K8=>?_
 refine AK true (fun _=>?_) (fun h=>nomatch h)
 refine AC VB K8 [] fun w9 K9=>?_
 refine Ak K9 (LR 1 w9) fun w10 K10=>?_
 refine CA BK Ot [⟨we.heap.size,0,[.slice p0aaA p0aan p0aac,.slice p0abA p0abn p0abc,.slice p0acA p0acn p0acc,.slice p0adA p0adn p0adc,.map (some bi),.map (some bs),.map (some bp),.map (some br)],75,true⟩,⟨we.heap.size + 1,0,[.int .i64 13,.int .i64 x.num,.int .i64 x.den,.int .i64 x.mu,.int .i64 x.hu,.int .i64 x.du,.string ⟨⟨x.nm⟩⟩,.int .i64 x.cnt,.int .i64 x.md,.slice (some ⟨gk,offk,none⟩) 2 p2c0],32,true⟩,⟨w5.heap.size,0,[.int .i64 17,.int .i64 0,.int .i64 0,.int .i64 0,.int .i64 0,.int .i64 0],53,true⟩,⟨w10.heap.size,0,[.int .i64 ((AX 1).1),.int .i64 ((AX 1).2.1),.int .i64 ((AX 1).2.2.1),.int .i64 ((AX 1).2.2.2.1),.int .i64 ((AX 1).2.2.2.2.1),.int .i64 ((AX 1).2.2.2.2.2)],53,true⟩] K10 [] fun w11 K11=>?_
 refine CF K11.H (K11.ix 0) (K11.at 0 rfl) (AX 1) [.int .i64 ((AX 1).1),.int .i64 ((AX 1).2.1),.int .i64 ((AX 1).2.2.1),.int .i64 ((AX 1).2.2.2.1),.int .i64 ((AX 1).2.2.2.2.1),.int .i64 ((AX 1).2.2.2.2.2)] rfl (w10.heap.size) (K11.ent 3 (by kernel_rfl)) (Ck Ot) (by kernel_rfl) (.tmp 25) (.tmp 27) 47 (by kernel_rfl) (by kernel_rfl) (by kernel_rfl) (by decide) (by kernel_rfl) (by kernel_rfl) rfl rfl (by ((try simp only [maxLen,DE,List.length_set,List.length_append,List.length_cons,List.length_nil,List.length_singleton]) <;> omega)) fun A12 c12 w12 Hn b12=>?_
 have K12:=K11.put 0 (by simp) b12 Hn
 refine CA BK Oq [⟨we.heap.size,0,[.slice p0aaA p0aan p0aac,.slice p0abA p0abn p0abc,.slice p0acA p0acn p0acc,.slice p0adA p0adn p0adc,.map (some bi),.map (some bs),.map (some bp),.map (some br)],75,true⟩,⟨we.heap.size + 1,0,[.int .i64 13,.int .i64 x.num,.int .i64 x.den,.int .i64 x.mu,.int .i64 x.hu,.int .i64 x.du,.string ⟨⟨x.nm⟩⟩,.int .i64 x.cnt,.int .i64 x.md,.slice (some ⟨gk,offk,none⟩) 2 p2c0],32,true⟩,⟨w5.heap.size,0,[.int .i64 17,.int .i64 0,.int .i64 0,.int .i64 0,.int .i64 0,.int .i64 0],53,true⟩,⟨w10.heap.size,0,[.int .i64 ((AX 1).1),.int .i64 ((AX 1).2.1),.int .i64 ((AX 1).2.2.1),.int .i64 ((AX 1).2.2.2.1),.int .i64 ((AX 1).2.2.2.2.1),.int .i64 ((AX 1).2.2.2.2.2)],53,true⟩,⟨w12.heap.size,0,[.int .i64 16,.int .i64 0,.int .i64 0,.int .i64 0,.int .i64 0,.int .i64 0],53,true⟩] K12 [] fun w13 K13=>?_
 refine CF K13.H (K13.ix 0) (K13.at 0 rfl) (((16,0,0,0,0,0):AJ)) [.int .i64 16,.int .i64 0,.int .i64 0,.int .i64 0,.int .i64 0,.int .i64 0] rfl (w12.heap.size) (K13.ent 4 (by kernel_rfl)) (Ck Oq) (by kernel_rfl) (.tmp 38) (.tmp 40) 47 (by kernel_rfl) (by kernel_rfl) (by kernel_rfl) (by decide) (by kernel_rfl) (by kernel_rfl) rfl rfl (by ((try simp only [maxLen,DE,List.length_set,List.length_append,List.length_cons,List.length_nil,List.length_singleton]) <;> omega)) fun A14 c14 w14 Hn b14=>?_
 have K14:=K13.put 0 (by simp) b14 Hn
 obtain ⟨gB0,rfl,hB0g⟩:=K14.H.rowAt (K14.ix 0) (K14.at 0 rfl) (by ((try simp only [maxLen,DE,List.length_set,List.length_append,List.length_cons,List.length_nil,List.length_singleton]) <;> omega))
 have hd0:((((AE f l k0)++[((17,0,0,0,0,0):AJ)])++[(AX 1)])++[((16,0,0,0,0,0):AJ)])[(AE f l k0).length]?=some (((((AE f l k0)++[((17,0,0,0,0,0):AJ)])++[(AX 1)])++[((16,0,0,0,0,0):AJ)]).getD (AE f l k0).length default):=getD_some default (by ((try simp only [maxLen,DE,List.length_set,List.length_append,List.length_cons,List.length_nil,List.length_singleton]) <;> omega))
 refine BA Ae VA K14 [] fun w15 K15=>?_
 refine BB (g:=gB0) (off:=0) (cap:=c14) (sz:=6) (k:=((AE f l k0).length)) (len:=((((AE f l k0)++[((17,0,0,0,0,0):AJ)])++[(AX 1)])++[((16,0,0,0,0,0):AJ)]).length) (some 46) (by ((try simp only [maxLen,DE,List.length_set,List.length_append,List.length_cons,List.length_nil,List.length_singleton]) <;> omega)) Tryz.underlying47 ?_
 refine BA F9 d7 K15 [] fun w16 K16=>?_
 refine Ej K16.H (K16.ix 0) (K16.at 0 rfl) ((AE f l k0).length) (((((AE f l k0)++[((17,0,0,0,0,0):AJ)])++[(AX 1)])++[((16,0,0,0,0,0):AJ)]).getD ((AE f l k0).length) default) hd0 1 (by decide) (.int .i64 ((((((AE f l k0)++[((17,0,0,0,0,0):AJ)])++[(AX 1)])++[((16,0,0,0,0,0):AJ)]).length:Int))) (fun r h=>by rw [h]; rfl) (fun _ _ h=>by rw [h]; rfl) 3 none (by kernel_rfl) (by kernel_rfl) rfl rfl (fun w17 Hn b17 Z17=>?_) (e':=((((((AE f l k0)++[((17,0,0,0,0,0):AJ)])++[(AX 1)])++[((16,0,0,0,0,0):AJ)]).getD ((AE f l k0).length) default).1,(((((AE f l k0)++[((17,0,0,0,0,0):AJ)])++[(AX 1)])++[((16,0,0,0,0,0):AJ)]).length:Int),(((((AE f l k0)++[((17,0,0,0,0,0):AJ)])++[(AX 1)])++[((16,0,0,0,0,0):AJ)]).getD ((AE f l k0).length) default).2.2))
 have K17:=K16.put 0 (by simp) b17 Hn
 refine FF [(1,.slice (some ⟨gB0,0,none⟩) ((Al ((((AE f l k0)++[((17,0,0,0,0,0):AJ)])++[(AX 1)])++[((16,0,0,0,0,0):AJ)]) ((AE f l k0).length) ((((((AE f l k0)++[((17,0,0,0,0,0):AJ)])++[(AX 1)])++[((16,0,0,0,0,0):AJ)]).length:Int))).length) c14),(3,.pointer (some ⟨we.heap.size,0,none⟩)),(5,.pointer (some ⟨we.heap.size + 1,0,none⟩)),(6,.slice none 0 0),(8,.int .i64 (((((AE f l k0)++[((17,0,0,0,0,0):AJ)])++[(AX 1)]).length:Int)))] (by simp only [DE]; kernel_rfl) fun E17=>?_
 refine AC d6 K17 [(1,0)] fun w18 K18=>?_
 refine AK false (fun h=>nomatch h) (fun _=>?_)
 refine AC d5 K18 [] fun w19 K19=>?_
 refine AK true (fun _=>?_) (fun h=>nomatch h)
 refine Ag 15 MI K19 [] fun w20 K20=>?_
 obtain ⟨k1A,k1c,hrowk1,h_k1⟩:=hallk 1 k1 rfl
 refine DY JJ 8 ?_
 refine Ct (i:=2) (v:=.pointer (some ⟨we.heap.size + 1,9,none⟩)) (JJ.getD 2 default) (fun _ _ _ h=>nomatch h.1) ?_
 refine Ce (md:=.any) (fuel:=2) (L:=[Ar 0 [] (.agg ⟨[.slice p0aaA p0aan p0aac,.slice p0abA p0abn p0abc,.slice p0acA p0acn p0acc,.slice p0adA p0adn p0adc,.map (some bi),.map (some bs),.map (some bp),.map (some br)]⟩),Ar 1 [] (.slice (some ⟨gB0,0,none⟩) ((Al ((((AE f l k0)++[((17,0,0,0,0,0):AJ)])++[(AX 1)])++[((16,0,0,0,0,0):AJ)]) ((AE f l k0).length) ((((((AE f l k0)++[((17,0,0,0,0,0):AJ)])++[(AX 1)])++[((16,0,0,0,0,0):AJ)]).length:Int))).length) c14),Ar 3 [] (.slice (some ⟨gk,offk,none⟩) 2 p2c0),Ar 4 [3] (.pointer (some ⟨gk,offk + 1 * 10,none⟩)),Ar 5 [3,4] (.agg ⟨[.int .i64 k1.op,.int .i64 k1.num,.int .i64 k1.den,.int .i64 k1.mu,.int .i64 k1.hu,.int .i64 k1.du,.string ⟨⟨k1.nm⟩⟩,.int .i64 k1.cnt,.int .i64 k1.md,.slice k1A k1.ks.length k1c]⟩)]) (W:=ee) (C:=fun u=>Below w20.heap.size w20 u) (Ext:=CQ) (Below.refl _ _).drew CQ.refl (fun _ _ _=>CQ.trans) ⟨?_,?_,?_,?_,?_,trivial⟩ rfl ?_
 ·refine ⟨fun _ _ _ _ _ h=>h,fun vals u hu hb=>?_⟩
  exact AN.knownE [] trivial (AN.reads ⟨0,_,(0,0),[]⟩ (Au K20.G hu) (.agg ⟨[.slice p0aaA p0aan p0aac,.slice p0abA p0abn p0abc,.slice p0acA p0acn p0acc,.slice p0adA p0adn p0adc,.map (some bi),.map (some bs),.map (some bp),.map (some br)]⟩) ⟨hu,.refl _,rfl⟩)
 ·refine ⟨fun _ _ _ _ _ h=>h,fun vals u hu hb=>?_⟩
  exact AN.knownE [] trivial (AN.reads ⟨0,[],(0,0),[]⟩ (fun e he=>by cases he) (.slice (some ⟨gB0,0,none⟩) ((Al ((((AE f l k0)++[((17,0,0,0,0,0):AJ)])++[(AX 1)])++[((16,0,0,0,0,0):AJ)]) ((AE f l k0).length) ((((((AE f l k0)++[((17,0,0,0,0,0):AJ)])++[(AX 1)])++[((16,0,0,0,0,0):AJ)]).length:Int))).length) c14) ⟨hu,.refl _,rfl⟩)
 ·refine ⟨fun _ _ _ _ _ h=>h,fun vals u hu hb=>?_⟩
  exact AN.knownE [] trivial (AN.reads ⟨0,_,(1,9),[]⟩ (Au K20.G hu) (.slice (some ⟨gk,offk,none⟩) 2 p2c0) ⟨hu,.refl _,rfl⟩)
 ·refine ⟨fun _ _ _ _ _ h=>h,fun vals u hu hb=>?_⟩
  obtain ⟨h3,_⟩:=hb
  exact AN.knownE [(68,3,.slice (some ⟨gk,offk,none⟩) 2 p2c0)] ⟨(List.cons.inj h3).1,trivial⟩ (AN.value (Cd (sz:=10) (cap:=p2c0) 30 (.tmp 68) (.const (.int .i64 1)) rfl rfl (by decide) Tryz.underlying30) ⟨hu,.refl _,rfl⟩)
 ·refine ⟨fun _ _ _ _ _ h=>h,fun vals u hu hb=>?_⟩
  obtain ⟨h3,h4,_⟩:=hb
  exact AN.knownE [(69,4,.pointer (some ⟨gk,offk + 1 * 10,none⟩))] ⟨(List.cons.inj h4).1,trivial⟩ (AN.reads ⟨0,[⟨gk,offk + 1 * 10,[.int .i64 k1.op,.int .i64 k1.num,.int .i64 k1.den,.int .i64 k1.mu,.int .i64 k1.hu,.int .i64 k1.du,.string ⟨⟨k1.nm⟩⟩,.int .i64 k1.cnt,.int .i64 k1.md,.slice k1A k1.ks.length k1c],32,false⟩],(0,0),[]⟩ (fun e he=>by rw [List.mem_singleton.1 he]; exact ⟨Nat.lt_of_lt_of_le hgk (K20.B.trans (hu.mono K20.B.size)).size,Af hrowk1 hgk (K20.B.trans (hu.mono K20.B.size))⟩) (.agg ⟨[.int .i64 k1.op,.int .i64 k1.num,.int .i64 k1.den,.int .i64 k1.mu,.int .i64 k1.hu,.int .i64 k1.du,.string ⟨⟨k1.nm⟩⟩,.int .i64 k1.cnt,.int .i64 k1.md,.slice k1A k1.ks.length k1c]⟩) ⟨hu,.refl _,rfl⟩)
 intro vals w21 b21 _ hall
 replace b21:Below w20.heap.size w20 w21:=b21
 obtain ⟨x0,x1,x3,x4,x5,_⟩:=hall
 have K21:=K20.below b21
 refine C0 [(1,.slice (some ⟨gB0,0,none⟩) ((Al ((((AE f l k0)++[((17,0,0,0,0,0):AJ)])++[(AX 1)])++[((16,0,0,0,0,0):AJ)]) ((AE f l k0).length) ((((((AE f l k0)++[((17,0,0,0,0,0):AJ)])++[(AX 1)])++[((16,0,0,0,0,0):AJ)]).length:Int))).length) c14),(6,.slice none 0 0),(8,.int .i64 (((((AE f l k0)++[((17,0,0,0,0,0):AJ)])++[(AX 1)]).length:Int))),(65,vals 0),(66,vals 1),(70,vals 5)] fun E21=>?_
 rw [show vals 0=.agg ⟨[.slice p0aaA p0aan p0aac,.slice p0abA p0abn p0abc,.slice p0acA p0acn p0acc,.slice p0adA p0adn p0adc,.map (some bi),.map (some bs),.map (some bp),.map (some br)]⟩ from (List.cons.inj x0).1]
 rw [show vals 1=.slice (some ⟨gB0,0,none⟩) ((Al ((((AE f l k0)++[((17,0,0,0,0,0):AJ)])++[(AX 1)])++[((16,0,0,0,0,0):AJ)]) ((AE f l k0).length) ((((((AE f l k0)++[((17,0,0,0,0,0):AJ)])++[(AX 1)])++[((16,0,0,0,0,0):AJ)]).length:Int))).length) c14 from (List.cons.inj x1).1]
 rw [show vals 5=.agg ⟨[.int .i64 k1.op,.int .i64 k1.num,.int .i64 k1.den,.int .i64 k1.mu,.int .i64 k1.hu,.int .i64 k1.du,.string ⟨⟨k1.nm⟩⟩,.int .i64 k1.cnt,.int .i64 k1.md,.slice k1A k1.ks.length k1c]⟩ from (List.cons.inj x5).1]
 have Kf:=(K21.pickL (L':=[(CM (some ⟨gB0,0,none⟩) c14 (Al ((((AE f l k0)++[((17,0,0,0,0,0):AJ)])++[(AX 1)])++[((16,0,0,0,0,0):AJ)]) ((AE f l k0).length) ((((((AE f l k0)++[((17,0,0,0,0,0):AJ)])++[(AX 1)])++[((16,0,0,0,0,0):AJ)]).length:Int))))]++[]) [0] rfl (by decide)).front
 refine FG (i:=6) (ats:=#[75,47,32]) (JJ.getD 6 default) 22 [.tmp 65,.tmp 66,.tmp 70] [.agg ⟨[.slice p0aaA p0aan p0aac,.slice p0abA p0abn p0abc,.slice p0acA p0acn p0acc,.slice p0adA p0adn p0adc,.map (some bi),.map (some bs),.map (some bp),.map (some br)]⟩,.slice (some ⟨gB0,0,none⟩) ((Al ((((AE f l k0)++[((17,0,0,0,0,0):AJ)])++[(AX 1)])++[((16,0,0,0,0,0):AJ)]) ((AE f l k0).length) ((((((AE f l k0)++[((17,0,0,0,0,0):AJ)])++[(AX 1)])++[((16,0,0,0,0,0):AJ)]).length:Int))).length) c14,.agg ⟨[.int .i64 k1.op,.int .i64 k1.num,.int .i64 k1.den,.int .i64 k1.mu,.int .i64 k1.hu,.int .i64 k1.du,.string ⟨⟨k1.nm⟩⟩,.int .i64 k1.cnt,.int .i64 k1.md,.slice k1A k1.ks.length k1c]⟩] ((hih _ (some ⟨gB0,0,none⟩) (Al ((((AE f l k0)++[((17,0,0,0,0,0):AJ)])++[(AX 1)])++[((16,0,0,0,0,0):AJ)]) ((AE f l k0).length) ((((((AE f l k0)++[((17,0,0,0,0,0):AJ)])++[(AX 1)])++[((16,0,0,0,0,0):AJ)]).length:Int))) c14 k1 k1A k1c w21 h_k1 (hgood _ (by simp)) (by ((try simp only [maxLen,DE,List.length_set,List.length_append,List.length_cons,List.length_nil,List.length_singleton]) <;> omega)) K21.B Kf).mono fun en w23 hh=>?_)
 obtain ⟨A22_0,c22_0,rfl,b23,Hn⟩:=hh
 refine ⟨_,rfl,?_⟩
 have K22:=Wk.unfront b23 Hn
 have hq7:=Fg hfl (Al ((((AE f l k0)++[((17,0,0,0,0,0):AJ)])++[(AX 1)])++[((16,0,0,0,0,0):AJ)]) ((AE f l k0).length) ((((((AE f l k0)++[((17,0,0,0,0,0):AJ)])++[(AX 1)])++[((16,0,0,0,0,0):AJ)]).length:Int))) (k:=k1) (hgood _ (by simp))
 try simp only [DE,List.length_append,List.length_cons,List.length_nil,List.length_singleton] at hq7
 refine JY (i:=7) K22 (JJ.getD 7 default) [⟨we.heap.size,0,[.slice p0aaA p0aan p0aac,.slice p0abA p0abn p0abc,.slice p0acA p0acn p0acc,.slice p0adA p0adn p0adc,.map (some bi),.map (some bs),.map (some bp),.map (some br)],75,true⟩,⟨we.heap.size + 1,0,[.int .i64 13,.int .i64 x.num,.int .i64 x.den,.int .i64 x.mu,.int .i64 x.hu,.int .i64 x.du,.string ⟨⟨x.nm⟩⟩,.int .i64 x.cnt,.int .i64 x.md,.slice (some ⟨gk,offk,none⟩) 2 p2c0],32,true⟩,⟨w5.heap.size,0,[.int .i64 17,.int .i64 0,.int .i64 0,.int .i64 0,.int .i64 0,.int .i64 0],53,true⟩,⟨w10.heap.size,0,[.int .i64 ((AX 1).1),.int .i64 ((AX 1).2.1),.int .i64 ((AX 1).2.2.1),.int .i64 ((AX 1).2.2.2.1),.int .i64 ((AX 1).2.2.2.2.1),.int .i64 ((AX 1).2.2.2.2.2)],53,true⟩,⟨w12.heap.size,0,[.int .i64 16,.int .i64 0,.int .i64 0,.int .i64 0,.int .i64 0,.int .i64 0],53,true⟩] (0,0) (.slice A22_0 (((AE f (Al ((((AE f l k0)++[((17,0,0,0,0,0):AJ)])++[(AX 1)])++[((16,0,0,0,0,0):AJ)]) ((AE f l k0).length) ((((((AE f l k0)++[((17,0,0,0,0,0):AJ)])++[(AX 1)])++[((16,0,0,0,0,0):AJ)]).length:Int))) k1)).length) c22_0) fun w24 K23=>?_
 refine DV ⟨rfl,At.mid ?_⟩
 obtain ⟨gB1,rfl,hB1g⟩:=K23.H.rowAt (K23.ix 0) (K23.at 0 rfl) (by ((try simp only [maxLen,DE,List.length_set,List.length_append,List.length_cons,List.length_nil,List.length_singleton]) <;> omega))
 have hd1:((AE f (Al ((((AE f l k0)++[((17,0,0,0,0,0):AJ)])++[(AX 1)])++[((16,0,0,0,0,0):AJ)]) ((AE f l k0).length) ((((((AE f l k0)++[((17,0,0,0,0,0):AJ)])++[(AX 1)])++[((16,0,0,0,0,0):AJ)]).length:Int))) k1))[(((AE f l k0)++[((17,0,0,0,0,0):AJ)])++[(AX 1)]).length]?=some (((AE f (Al ((((AE f l k0)++[((17,0,0,0,0,0):AJ)])++[(AX 1)])++[((16,0,0,0,0,0):AJ)]) ((AE f l k0).length) ((((((AE f l k0)++[((17,0,0,0,0,0):AJ)])++[(AX 1)])++[((16,0,0,0,0,0):AJ)]).length:Int))) k1)).getD (((AE f l k0)++[((17,0,0,0,0,0):AJ)])++[(AX 1)]).length default):=getD_some default (by ((try simp only [maxLen,DE,List.length_set,List.length_append,List.length_cons,List.length_nil,List.length_singleton]) <;> omega))
 refine BA Ae P9 K23 [] fun w25 K24=>?_
 refine BB (g:=gB1) (off:=0) (cap:=c22_0) (sz:=6) (k:=((((AE f l k0)++[((17,0,0,0,0,0):AJ)])++[(AX 1)]).length)) (len:=((AE f (Al ((((AE f l k0)++[((17,0,0,0,0,0):AJ)])++[(AX 1)])++[((16,0,0,0,0,0):AJ)]) ((AE f l k0).length) ((((((AE f l k0)++[((17,0,0,0,0,0):AJ)])++[(AX 1)])++[((16,0,0,0,0,0):AJ)]).length:Int))) k1)).length) (some 76) (by ((try simp only [maxLen,DE,List.length_set,List.length_append,List.length_cons,List.length_nil,List.length_singleton]) <;> omega)) Tryz.underlying47 ?_
 refine BA F9 W1 K24 [] fun w26 K25=>?_
 refine Ej K25.H (K25.ix 0) (K25.at 0 rfl) ((((AE f l k0)++[((17,0,0,0,0,0):AJ)])++[(AX 1)]).length) (((AE f (Al ((((AE f l k0)++[((17,0,0,0,0,0):AJ)])++[(AX 1)])++[((16,0,0,0,0,0):AJ)]) ((AE f l k0).length) ((((((AE f l k0)++[((17,0,0,0,0,0):AJ)])++[(AX 1)])++[((16,0,0,0,0,0):AJ)]).length:Int))) k1)).getD ((((AE f l k0)++[((17,0,0,0,0,0):AJ)])++[(AX 1)]).length) default) hd1 1 (by decide) (.int .i64 ((((AE f (Al ((((AE f l k0)++[((17,0,0,0,0,0):AJ)])++[(AX 1)])++[((16,0,0,0,0,0):AJ)]) ((AE f l k0).length) ((((((AE f l k0)++[((17,0,0,0,0,0):AJ)])++[(AX 1)])++[((16,0,0,0,0,0):AJ)]).length:Int))) k1)).length:Int))) (fun r h=>by rw [h]; rfl) (fun _ _ h=>by rw [h]; rfl) 3 none (by kernel_rfl) (by kernel_rfl) rfl rfl (fun w27 Hn b27 Z27=>?_) (e':=((((AE f (Al ((((AE f l k0)++[((17,0,0,0,0,0):AJ)])++[(AX 1)])++[((16,0,0,0,0,0):AJ)]) ((AE f l k0).length) ((((((AE f l k0)++[((17,0,0,0,0,0):AJ)])++[(AX 1)])++[((16,0,0,0,0,0):AJ)]).length:Int))) k1)).getD ((((AE f l k0)++[((17,0,0,0,0,0):AJ)])++[(AX 1)]).length) default).1,(((AE f (Al ((((AE f l k0)++[((17,0,0,0,0,0):AJ)])++[(AX 1)])++[((16,0,0,0,0,0):AJ)]) ((AE f l k0).length) ((((((AE f l k0)++[((17,0,0,0,0,0):AJ)])++[(AX 1)])++[((16,0,0,0,0,0):AJ)]).length:Int))) k1)).length:Int),(((AE f (Al ((((AE f l k0)++[((17,0,0,0,0,0):AJ)])++[(AX 1)])++[((16,0,0,0,0,0):AJ)]) ((AE f l k0).length) ((((((AE f l k0)++[((17,0,0,0,0,0):AJ)])++[(AX 1)])++[((16,0,0,0,0,0):AJ)]).length:Int))) k1)).getD ((((AE f l k0)++[((17,0,0,0,0,0):AJ)])++[(AX 1)]).length) default).2.2))
 have K26:=K25.put 0 (by simp) b27 Hn
 refine FF [(1,.slice (some ⟨gB1,0,none⟩) ((Al ((AE f (Al ((((AE f l k0)++[((17,0,0,0,0,0):AJ)])++[(AX 1)])++[((16,0,0,0,0,0):AJ)]) ((AE f l k0).length) ((((((AE f l k0)++[((17,0,0,0,0,0):AJ)])++[(AX 1)])++[((16,0,0,0,0,0):AJ)]).length:Int))) k1)) ((((AE f l k0)++[((17,0,0,0,0,0):AJ)])++[(AX 1)]).length) ((((AE f (Al ((((AE f l k0)++[((17,0,0,0,0,0):AJ)])++[(AX 1)])++[((16,0,0,0,0,0):AJ)]) ((AE f l k0).length) ((((((AE f l k0)++[((17,0,0,0,0,0):AJ)])++[(AX 1)])++[((16,0,0,0,0,0):AJ)]).length:Int))) k1)).length:Int))).length) c22_0),(6,.slice none 0 0)] (by simp only [DE]; kernel_rfl) fun E27=>?_
 refine AC j2 K26 [] fun w28 K27=>?_
 have hS:(Gr f l k0 k1)=Al ((AE f (Al ((((AE f l k0)++[((17,0,0,0,0,0):AJ)])++[(AX 1)])++[((16,0,0,0,0,0):AJ)]) ((AE f l k0).length) ((((((AE f l k0)++[((17,0,0,0,0,0):AJ)])++[(AX 1)])++[((16,0,0,0,0,0):AJ)]).length:Int))) k1)) ((((AE f l k0)++[((17,0,0,0,0,0):AJ)])++[(AX 1)]).length) ((((AE f (Al ((((AE f l k0)++[((17,0,0,0,0,0):AJ)])++[(AX 1)])++[((16,0,0,0,0,0):AJ)]) ((AE f l k0).length) ((((((AE f l k0)++[((17,0,0,0,0,0):AJ)])++[(AX 1)])++[((16,0,0,0,0,0):AJ)]).length:Int))) k1)).length:Int)):=by unfold Gr; rfl
 exact Aa K27 (0,0) (.slice (some ⟨gB1,0,none⟩) ((Al ((AE f (Al ((((AE f l k0)++[((17,0,0,0,0,0):AJ)])++[(AX 1)])++[((16,0,0,0,0,0):AJ)]) ((AE f l k0).length) ((((((AE f l k0)++[((17,0,0,0,0,0):AJ)])++[(AX 1)])++[((16,0,0,0,0,0):AJ)]).length:Int))) k1)) ((((AE f l k0)++[((17,0,0,0,0,0):AJ)])++[(AX 1)]).length) ((((AE f (Al ((((AE f l k0)++[((17,0,0,0,0,0):AJ)])++[(AX 1)])++[((16,0,0,0,0,0):AJ)]) ((AE f l k0).length) ((((((AE f l k0)++[((17,0,0,0,0,0):AJ)])++[(AX 1)])++[((16,0,0,0,0,0):AJ)]).length:Int))) k1)).length:Int))).length) c22_0) ⟨(some ⟨gB1,0,none⟩),c22_0,by rw [hS] <;> rfl,K27.B,by rw [hS]; exact K27.own [0] rfl (by decide)⟩
end
end
end Go.Proofs.YtmcpjkcggfmcmaaGreatDoor

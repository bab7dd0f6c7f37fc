/-
  Part 30 of a proof: contracts of functions.
-/
import Derived.Test.YtmcpjkcggfmcmaaGreatDoorD29
set_option linter.all false
namespace Go.Proofs.YtmcpjkcggfmcmaaGreatDoor
noncomputable section
open Go.RowKit
set_option maxRecDepth 100000
set_option maxHeartbeats 1000000
attribute [local irreducible] BO CB AE AG AL Ay Aj AP Bc Cq Eb CT CO At Fr
section
variable (mi ms mp mr:List (List UInt8×Int))
def Im (f:Ex→Nat→List AK):List Ex→Nat→List AK
 | [],_=>[]
 | k :: ks,n=>f k n++Im f ks (n + (f k n).length)
def C3 (f:Ex→Nat→List AK) (x:Ex) (n:Nat):List AK:=
 let c0:=f (x.ks.getD 0 default) n
 let c1:=cond (x.op == 13) [AZ 1] (f (x.ks.getD 1 default) (n + c0.length + 1))
 let j:=n + c0.length + 1 + c1.length
 let c2:=cond (x.op == 12) [AZ 0] (cond (x.op == 13) (f (x.ks.getD 1 default) (j + 1)) (f (x.ks.getD 2 default) (j + 1)))
 c0++[(17,((j + 1:Nat):Int),0,0,0,0)]++c1++[(16,((j + 1 + c2.length:Nat):Int),0,0,0,0)]++c2
def Aa:Nat→Ex→Nat→List AK
 | 0,_,_=>[]
 | h + 1,x,n=>cond (cond (x.op == 18) true (cond (x.op == 12) true (x.op == 13))) (C3 (Aa h) x n) (Im (Aa h) x.ks n++[As mi ms mp mr x])
end
section
variable (C9:Ex→Prop)
def AF (f:Ex→Nat→List AK) (l:List AK) (x:Ex):List AK:=l++f x l.length
theorem HZ {C9:Ex→Prop} {f:Ex→Nat→List AK} (a:∀ k n,C9 k→(f k n).length≤4 * nE k) (l:List AK) {k:Ex} (b:C9 k):(AF f l k).length≤l.length + 4 * nE k∧l.length≤(AF f l k).length:=by
 have:=a k l.length b
 unfold AF
 rw [List.length_append]
 omega
def JD (f:Ex→Nat→List AK) (l:List AK) (k0:Ex) (k1:Ex) (k2:Ex):List AK:=Aq ((AF f (Aq (((AF f ((AF f l k0)++[((17,0,0,0,0,0):AK)]) k1))++[((16,0,0,0,0,0):AK)]) ((AF f l k0).length) (((((AF f ((AF f l k0)++[((17,0,0,0,0,0):AK)]) k1))++[((16,0,0,0,0,0):AK)]).length:Int))) k2)) (((AF f ((AF f l k0)++[((17,0,0,0,0,0):AK)]) k1)).length) ((((AF f (Aq (((AF f ((AF f l k0)++[((17,0,0,0,0,0):AK)]) k1))++[((16,0,0,0,0,0):AK)]) ((AF f l k0).length) (((((AF f ((AF f l k0)++[((17,0,0,0,0,0):AK)]) k1))++[((16,0,0,0,0,0):AK)]).length:Int))) k2)).length:Int))
noncomputable def V8:Code:=Tryz.f54.body.getD .skip
def SH:=Ad 1 ([.code V8])
def NI:Array Oper:=(C6 SH).getD #[]
def nH:Wr:=[(9,0),(10,1),(12,3),(13,4),(14,5)]
def Yr:=AB (BA Bb 90 (AP SH)) (AP SH)
def ld:=AB 60 (AE Yr)
def SG:=Ad 6 (AL ld)
def NH:Array Oper:=(C6 SG).getD #[]
def nG:Wr:=[(29,0),(30,1),(32,3),(33,4),(34,5)]
def SF:=AB (BA Bb 90 (AP SG)) (AP SG)
def Yq:=AB (BA Ai 90 (AE SF)) (AE SF)
def lc:=AB (BA IG 90 (AE Yq)) (AE Yq)
def lb:=AB 60 (AE lc)
def la:=AB 60 (AL lb)
def SE:=Ad 11 (AL la)
def Lp:Array Oper:=(C6 SE).getD #[]
def mF:Wr:=[(50,0),(51,1),(53,3),(54,4),(55,5)]
def TU:=AB (BA Ai 90 (AP SE)) (AP SE)
def bC:=AB (BA IG 90 (AE TU)) (AE TU)
def qt:=AB 60 (AE bC)
theorem Uz (L:List Th) (f:Ex→Nat→List AK) (p0aaA:Option Addr) (p0aan p0aac:Nat) (p0abA:Option Addr) (p0abn p0abc:Nat) (p0acA:Option Addr) (p0acn p0acc:Nat) (p0adA:Option Addr) (p0adn p0adc bi:Nat) (mi:List (List UInt8×Int)) (bs:Nat) (ms:List (List UInt8×Int)) (bp:Nat) (mp:List (List UInt8×Int)) (br:Nat) (mr:List (List UInt8×Int)) (q:Option Addr) (l:List AK) (p:Nat) (x:Ex) (a0:Option Addr) (a b j:Ex) (o:Nat) (w t:World) (u2:AY.at BL bi mi w) (r2:AY.at BL bs ms w) (t2:AY.at BL bp mp w) (s2:AY.at BL br mr w) (c2:rowsEx w a0 [a,b,j]) (n1:∀ (L:List Th) (q:Option Addr) (l:List AK) (p:Nat) (x':Ex) (a0:Option Addr) (o:Nat) (t:World),rowsEx w a0 x'.ks→C9 x'→l.length + 4 * nE x'≤400000000→Below w.heap.size w t→AU w.heap.size t ([Cj q p l]++L)→Calls Tryz.prog 22 ([.agg ⟨[.slice p0aaA p0aan p0aac,.slice p0abA p0abn p0abc,.slice p0acA p0acn p0acc,.slice p0adA p0adn p0adc,.map (some bi),.map (some bs),.map (some bp),.map (some br)]⟩,.slice q l.length p,.agg ⟨CW x' a0 o⟩]:List Value).toArray t fun e w'=>∃ (y0:Option Addr) (w0:Nat),e=.returned (.slice y0 (AF f l x').length w0)∧Below w.heap.size w w'∧AU w.heap.size w' ([Cj y0 w0 (AF f l x')]++L)) (s:∀ k∈[a,b,j],C9 k) (p1:∀ k n,C9 k→(f k n).length≤4 * nE k) (hb:l.length + 4 * (nE a + nE b + nE j) + 4≤400000000) (B:Below w.heap.size w t) (H:AU w.heap.size t ([(Cj q p l)]++L)):Calls Tryz.prog 54 ([.agg ⟨[.slice p0aaA p0aan p0aac,.slice p0abA p0abn p0abc,.slice p0acA p0acn p0acc,.slice p0adA p0adn p0adc,.map (some bi),.map (some bs),.map (some bp),.map (some br)]⟩,.slice q l.length p,.agg ⟨[D 18,D x.num,D x.den,D x.mu,D x.hu,D x.du,.string ⟨⟨x.nm⟩⟩,D x.cnt,D x.md,.slice a0 3 o]⟩]:List Value).toArray t fun e w'=>∃ (y0:Option Addr) (w0:Nat),e=.returned (.slice y0 ((JD f l a b j).length) w0)∧Below w.heap.size w w'∧AU w.heap.size w' ([Cj y0 w0 (JD f l a b j)]++L):=by
 refine Af (fn:=Tryz.f54) (c:=V8) (n:=79) ?_
 have K1:Wk w t [] [(Cj q p l)] L:=⟨B,H⟩
 clear B H
 refine CR 1 SH [⟨t.heap.size,0,[.slice p0aaA p0aan p0aac,.slice p0abA p0abn p0abc,.slice p0acA p0acn p0acc,.slice p0adA p0adn p0adc,.map (some bi),.map (some bs),.map (some bp),.map (some br)],75,true⟩,⟨t.heap.size + 1,0,[D 18,D x.num,D x.den,D x.mu,D x.hu,D x.du,.string ⟨⟨x.nm⟩⟩,D x.cnt,D x.md,.slice a0 3 o],32,true⟩] K1 [] fun w1 K2=>?_
 obtain ⟨z,m,rfl,v0,e0⟩:=c2.all (by simp)
 obtain ⟨t0,r0,d1,f2⟩:=e0 0 a rfl
 refine C4 NI 8 ?_
 let z9:Option Addr:=some ⟨t.heap.size + 1,9,none⟩
 refine C5 (i:=2) (v:=.pointer z9) (NI.getD 2 default) (fun _ _ _ h=>nomatch h.1) ?_
 let z4:List Value:=[D a.op,D a.num,D a.den,D a.mu,D a.hu,D a.du,.string ⟨⟨a.nm⟩⟩,D a.cnt,D a.md,.slice t0 a.ks.length r0]
 refine CG (md:=.any) (fuel:=2) (L:=[AN 0 [] (.agg ⟨[.slice p0aaA p0aan p0aac,.slice p0abA p0abn p0abc,.slice p0acA p0acn p0acc,.slice p0adA p0adn p0adc,.map (some bi),.map (some bs),.map (some bp),.map (some br)]⟩),AN 1 [] (.slice q l.length p),AN 3 [] (.slice (some ⟨z,m,none⟩) 3 o),AN 4 [3] (.pointer (some ⟨z,m + 0 * 10,none⟩)),AN 5 [3,4] (.agg ⟨z4⟩)]) (W:=nH) (C:=fun u=>Below w1.heap.size w1 u) (Ext:=Ck) (Below.refl _ _).drew Ck.refl (fun _ _ _=>Ck.trans) ⟨?_,?_,?_,?_,?_,trivial⟩ rfl ?_
 ·refine ⟨fun _ _ _ _ _ h=>h,fun d u hu hb=>?_⟩
  exact AH.knownE [] (by kernel_rfl) trivial (AH.reads ⟨0,_,(0,0),[]⟩ (Az K2.G hu) (.agg ⟨[.slice p0aaA p0aan p0aac,.slice p0abA p0abn p0abc,.slice p0acA p0acn p0acc,.slice p0adA p0adn p0adc,.map (some bi),.map (some bs),.map (some bp),.map (some br)]⟩) ⟨hu,.refl _,rfl⟩)
 ·refine ⟨fun _ _ _ _ _ h=>h,fun d u hu hb=>?_⟩
  exact AH.knownE [] (by kernel_rfl) trivial (AH.reads ⟨0,[],(0,0),[]⟩ (fun e he=>by cases he) (.slice q l.length p) ⟨hu,.refl _,rfl⟩)
 ·refine ⟨fun _ _ _ _ _ h=>h,fun d u hu hb=>?_⟩
  exact AH.knownE [] (by kernel_rfl) trivial (AH.reads ⟨0,_,(1,9),[]⟩ (Az K2.G hu) (.slice (some ⟨z,m,none⟩) 3 o) ⟨hu,.refl _,rfl⟩)
 ·refine ⟨fun _ _ _ _ _ h=>h,fun d u hu hb=>?_⟩
  obtain ⟨h3,_⟩:=hb
  exact AH.knownE [(12,3,.slice (some ⟨z,m,none⟩) 3 o)] (by kernel_rfl) ⟨(List.cons.inj h3).1,trivial⟩ (AH.value (h:=(Bd (sz:=10) (cap:=o) 30 (.tmp 12) (.const (D 0)) rfl rfl (by decide) Tryz.underlying30)) ⟨hu,.refl _,rfl⟩)
 ·refine ⟨fun _ _ _ _ _ h=>h,fun d u hu hb=>?_⟩
  obtain ⟨h3,h4,_⟩:=hb
  exact AH.knownE [(13,4,.pointer (some ⟨z,m + 0 * 10,none⟩))] (by kernel_rfl) ⟨(List.cons.inj h4).1,trivial⟩ (AH.reads ⟨0,[⟨z,m + 0 * 10,z4,32,false⟩],(0,0),[]⟩ (fun e he=>by rw [List.mem_singleton.1 he]; exact ⟨Nat.lt_of_lt_of_le v0 (K2.B.trans (hu.mono K2.B.size)).size,Ac d1 v0 (K2.B.trans (hu.mono K2.B.size))⟩) (.agg ⟨z4⟩) ⟨hu,.refl _,rfl⟩)
 intro d w2 b2 _ d0
 replace b2:Below w1.heap.size w1 w2:=b2
 obtain ⟨x0,x1,x3,x4,x5,_⟩:=d0
 have K3:=K2.below b2
 let z10:Option Addr:=some ⟨t.heap.size + 1,0,none⟩
 refine DN [(1,.slice q l.length p),(3,.pointer (some ⟨t.heap.size,0,none⟩)),(5,.pointer z10),(6,.slice none 0 0),(9,d 0),(10,d 1),(14,d 5)] fun E2=>?_
 rw [show d 0=.agg ⟨[.slice p0aaA p0aan p0aac,.slice p0abA p0abn p0abc,.slice p0acA p0acn p0acc,.slice p0adA p0adn p0adc,.map (some bi),.map (some bs),.map (some bp),.map (some br)]⟩ from (List.cons.inj x0).1]
 rw [show d 1=.slice q l.length p from (List.cons.inj x1).1]
 rw [show d 5=.agg ⟨z4⟩ from (List.cons.inj x5).1]
 have Kf:=(K3.pickL (L':=[(Cj q p l)]++[]) [0] rfl (by decide)).front
 refine Gh (i:=6) (ats:=#[75,47,32]) (NI.getD 6 default) 22 [.tmp 9,.tmp 10,.tmp 14] [.agg ⟨[.slice p0aaA p0aan p0aac,.slice p0abA p0abn p0abc,.slice p0acA p0acn p0acc,.slice p0adA p0adn p0adc,.map (some bi),.map (some bs),.map (some bp),.map (some br)]⟩,.slice q l.length p,.agg ⟨z4⟩] ((n1 _ q l p a t0 r0 w2 f2 (s _ (by simp)) (by ((try simp only [maxLen,Dk,List.length_set,List.length_append,List.length_cons,List.length_nil,List.length_singleton]) <;> omega)) K3.B Kf).mono fun en w4 hh=>?_)
 obtain ⟨l2,g2,rfl,b4,Hn⟩:=hh
 refine ⟨_,rfl,?_⟩
 have K4:=Wk.unfront b4 Hn
 have q2:=HZ p1 l (k:=a) (s _ (by simp))
 try simp only [Dk,List.length_append,List.length_cons,List.length_nil,List.length_singleton] at q2
 refine EB (i:=7) K4 (NI.getD 7 default) (0,0) (.slice l2 ((AF f l a).length) g2) fun w5 K5=>?_
 refine Cy ⟨rfl,At.mid ?_⟩
 let z7:List Value:=[D 18,D x.num,D x.den,D x.mu,D x.hu,D x.du,.string ⟨⟨x.nm⟩⟩,D x.cnt,D x.md,.slice (some ⟨z,m,none⟩) 3 o]
 let z8:List Value:=[D 17,D 0,D 0,D 0,D 0,D 0]
 refine Cb Bb Yr [⟨t.heap.size,0,[.slice p0aaA p0aan p0aac,.slice p0abA p0abn p0abc,.slice p0acA p0acn p0acc,.slice p0adA p0adn p0adc,.map (some bi),.map (some bs),.map (some bp),.map (some br)],75,true⟩,⟨t.heap.size + 1,0,z7,32,true⟩,⟨w5.heap.size,0,z8,53,true⟩] K5 [] fun w6 K6=>?_
 refine Ch K6.H (K6.ix 0) (K6.at 0 rfl) (((17,0,0,0,0,0):AK)) z8 rfl (w5.heap.size) (K6.ent 2 (by kernel_rfl)) (DM Yr) (by kernel_rfl) (.tmp 18) (.tmp 20) 47 (by kernel_rfl) (by kernel_rfl) (by kernel_rfl) (by decide) (by kernel_rfl) (by kernel_rfl) rfl rfl (by ((try simp only [maxLen,Dk,List.length_set,List.length_append,List.length_cons,List.length_nil,List.length_singleton]) <;> omega)) fun A7 c7 w7 Hn b7=>?_
 have K7:=K6.put 0 (by simp) b7 Hn
 refine AC ld K7 [(1,0)] fun w8 K8=>?_
 refine AM false (fun h=>nomatch h) (fun _=>?_)
 refine Al 6 SG K8 [] fun w9 K9=>?_
 obtain ⟨q0,p0,c1,e2⟩:=e0 1 b rfl
 refine C4 NH 8 ?_
 refine C5 (i:=2) (v:=.pointer z9) (NH.getD 2 default) (fun _ _ _ h=>nomatch h.1) ?_
 let z5:List Value:=[D b.op,D b.num,D b.den,D b.mu,D b.hu,D b.du,.string ⟨⟨b.nm⟩⟩,D b.cnt,D b.md,.slice q0 b.ks.length p0]
 refine CG (md:=.any) (fuel:=2) (L:=[AN 0 [] (.agg ⟨[.slice p0aaA p0aan p0aac,.slice p0abA p0abn p0abc,.slice p0acA p0acn p0acc,.slice p0adA p0adn p0adc,.map (some bi),.map (some bs),.map (some bp),.map (some br)]⟩),AN 1 [] (.slice A7 (((AF f l a)++[((17,0,0,0,0,0):AK)]).length) c7),AN 3 [] (.slice (some ⟨z,m,none⟩) 3 o),AN 4 [3] (.pointer (some ⟨z,m + 1 * 10,none⟩)),AN 5 [3,4] (.agg ⟨z5⟩)]) (W:=nG) (C:=fun u=>Below w9.heap.size w9 u) (Ext:=Ck) (Below.refl _ _).drew Ck.refl (fun _ _ _=>Ck.trans) ⟨?_,?_,?_,?_,?_,trivial⟩ rfl ?_
 ·refine ⟨fun _ _ _ _ _ h=>h,fun d u hu hb=>?_⟩
  exact AH.knownE [] (by kernel_rfl) trivial (AH.reads ⟨0,_,(0,0),[]⟩ (Az K9.G hu) (.agg ⟨[.slice p0aaA p0aan p0aac,.slice p0abA p0abn p0abc,.slice p0acA p0acn p0acc,.slice p0adA p0adn p0adc,.map (some bi),.map (some bs),.map (some bp),.map (some br)]⟩) ⟨hu,.refl _,rfl⟩)
 ·refine ⟨fun _ _ _ _ _ h=>h,fun d u hu hb=>?_⟩
  exact AH.knownE [] (by kernel_rfl) trivial (AH.reads ⟨0,[],(0,0),[]⟩ (fun e he=>by cases he) (.slice A7 (((AF f l a)++[((17,0,0,0,0,0):AK)]).length) c7) ⟨hu,.refl _,rfl⟩)
 ·refine ⟨fun _ _ _ _ _ h=>h,fun d u hu hb=>?_⟩
  exact AH.knownE [] (by kernel_rfl) trivial (AH.reads ⟨0,_,(1,9),[]⟩ (Az K9.G hu) (.slice (some ⟨z,m,none⟩) 3 o) ⟨hu,.refl _,rfl⟩)
 ·refine ⟨fun _ _ _ _ _ h=>h,fun d u hu hb=>?_⟩
  obtain ⟨h3,_⟩:=hb
  exact AH.knownE [(32,3,.slice (some ⟨z,m,none⟩) 3 o)] (by kernel_rfl) ⟨(List.cons.inj h3).1,trivial⟩ (AH.value (h:=(Bd (sz:=10) (cap:=o) 30 (.tmp 32) (.const (D 1)) rfl rfl (by decide) Tryz.underlying30)) ⟨hu,.refl _,rfl⟩)
 ·refine ⟨fun _ _ _ _ _ h=>h,fun d u hu hb=>?_⟩
  obtain ⟨h3,h4,_⟩:=hb
  exact AH.knownE [(33,4,.pointer (some ⟨z,m + 1 * 10,none⟩))] (by kernel_rfl) ⟨(List.cons.inj h4).1,trivial⟩ (AH.reads ⟨0,[⟨z,m + 1 * 10,z5,32,false⟩],(0,0),[]⟩ (fun e he=>by rw [List.mem_singleton.1 he]; exact ⟨Nat.lt_of_lt_of_le v0 (K9.B.trans (hu.mono K9.B.size)).size,Ac c1 v0 (K9.B.trans (hu.mono K9.B.size))⟩) (.agg ⟨z5⟩) ⟨hu,.refl _,rfl⟩)
 intro d a2 s1 _ d0
 replace s1:Below w9.heap.size w9 a2:=s1
 obtain ⟨x0,x1,x3,x4,x5,_⟩:=d0
 have i2:=K9.below s1
 refine DN [(1,.slice A7 (((AF f l a)++[((17,0,0,0,0,0):AK)]).length) c7),(3,.pointer (some ⟨t.heap.size,0,none⟩)),(5,.pointer z10),(6,.slice none 0 0),(7,D (((AF f l a).length:Int))),(29,d 0),(30,d 1),(34,d 5)] fun v4=>?_
 rw [show d 0=.agg ⟨[.slice p0aaA p0aan p0aac,.slice p0abA p0abn p0abc,.slice p0acA p0acn p0acc,.slice p0adA p0adn p0adc,.map (some bi),.map (some bs),.map (some bp),.map (some br)]⟩ from (List.cons.inj x0).1]
 rw [show d 1=.slice A7 (((AF f l a)++[((17,0,0,0,0,0):AK)]).length) c7 from (List.cons.inj x1).1]
 rw [show d 5=.agg ⟨z5⟩ from (List.cons.inj x5).1]
 have Kf:=(i2.pickL (L':=[(Cj A7 c7 ((AF f l a)++[((17,0,0,0,0,0):AK)]))]++[]) [0] rfl (by decide)).front
 refine Gh (i:=6) (ats:=#[75,47,32]) (NH.getD 6 default) 22 [.tmp 29,.tmp 30,.tmp 34] [.agg ⟨[.slice p0aaA p0aan p0aac,.slice p0abA p0abn p0abc,.slice p0acA p0acn p0acc,.slice p0adA p0adn p0adc,.map (some bi),.map (some bs),.map (some bp),.map (some br)]⟩,.slice A7 (((AF f l a)++[((17,0,0,0,0,0):AK)]).length) c7,.agg ⟨z5⟩] ((n1 _ A7 ((AF f l a)++[((17,0,0,0,0,0):AK)]) c7 b q0 p0 a2 e2 (s _ (by simp)) (by ((try simp only [maxLen,Dk,List.length_set,List.length_append,List.length_cons,List.length_nil,List.length_singleton]) <;> omega)) i2.B Kf).mono fun en m4 hh=>?_)
 obtain ⟨y1,q1,rfl,c3,Hn⟩:=hh
 refine ⟨_,rfl,?_⟩
 have q3:=Wk.unfront c3 Hn
 have p2:=HZ p1 ((AF f l a)++[((17,0,0,0,0,0):AK)]) (k:=b) (s _ (by simp))
 try simp only [Dk,List.length_append,List.length_cons,List.length_nil,List.length_singleton] at p2
 refine EB (i:=7) q3 (NH.getD 7 default) (0,0) (.slice y1 (((AF f ((AF f l a)++[((17,0,0,0,0,0):AK)]) b)).length) q1) fun m1 m3=>?_
 refine Cy ⟨rfl,At.mid ?_⟩
 refine Cb Bb SF [⟨t.heap.size,0,[.slice p0aaA p0aan p0aac,.slice p0abA p0abn p0abc,.slice p0acA p0acn p0acc,.slice p0adA p0adn p0adc,.map (some bi),.map (some bs),.map (some bp),.map (some br)],75,true⟩,⟨t.heap.size + 1,0,z7,32,true⟩,⟨w5.heap.size,0,z8,53,true⟩,⟨m1.heap.size,0,[D 16,D 0,D 0,D 0,D 0,D 0],53,true⟩] m3 [] fun k4 z0=>?_
 refine Ch z0.H (z0.ix 0) (z0.at 0 rfl) (((16,0,0,0,0,0):AK)) [D 16,D 0,D 0,D 0,D 0,D 0] rfl (m1.heap.size) (z0.ent 3 (by kernel_rfl)) (DM SF) (by kernel_rfl) (.tmp 38) (.tmp 40) 47 (by kernel_rfl) (by kernel_rfl) (by kernel_rfl) (by decide) (by kernel_rfl) (by kernel_rfl) rfl rfl (by ((try simp only [maxLen,Dk,List.length_set,List.length_append,List.length_cons,List.length_nil,List.length_singleton]) <;> omega)) fun y4 c0 i4 Hn b3=>?_
 have i1:=z0.put 0 (by simp) b3 Hn
 obtain ⟨b0,rfl,s3⟩:=i1.H.rowAt (i1.ix 0) (i1.at 0 rfl) (by ((try simp only [maxLen,Dk,List.length_set,List.length_append,List.length_cons,List.length_nil,List.length_singleton]) <;> omega))
 have x2:(((AF f ((AF f l a)++[((17,0,0,0,0,0):AK)]) b))++[((16,0,0,0,0,0):AK)])[(AF f l a).length]?=some ((((AF f ((AF f l a)++[((17,0,0,0,0,0):AK)]) b))++[((16,0,0,0,0,0):AK)]).getD (AF f l a).length default):=getD_some default (by ((try simp only [maxLen,Dk,List.length_set,List.length_append,List.length_cons,List.length_nil,List.length_singleton]) <;> omega))
 refine BG Ai Yq i1 [] fun g4 l3=>?_
 refine BH (g:=b0) (off:=0) (cap:=c0) (sz:=6) (k:=((AF f l a).length)) (len:=(((AF f ((AF f l a)++[((17,0,0,0,0,0):AK)]) b))++[((16,0,0,0,0,0):AK)]).length) (some 46) (by ((try simp only [maxLen,Dk,List.length_set,List.length_append,List.length_cons,List.length_nil,List.length_singleton]) <;> omega)) Tryz.underlying47 ?_
 refine BG IG lc l3 [] fun f4 h1=>?_
 refine F9 h1.H (h1.ix 0) (h1.at 0 rfl) ((AF f l a).length) ((((AF f ((AF f l a)++[((17,0,0,0,0,0):AK)]) b))++[((16,0,0,0,0,0):AK)]).getD ((AF f l a).length) default) x2 1 (by decide) (D (((((AF f ((AF f l a)++[((17,0,0,0,0,0):AK)]) b))++[((16,0,0,0,0,0):AK)]).length:Int))) (fun r h=>by rw [h]; rfl) (fun _ _ h=>by rw [h]; rfl) 3 none (by kernel_rfl) (by kernel_rfl) rfl rfl (fun e4 Hn a3 r4=>?_) (e':=(((((AF f ((AF f l a)++[((17,0,0,0,0,0):AK)]) b))++[((16,0,0,0,0,0):AK)]).getD ((AF f l a).length) default).1,((((AF f ((AF f l a)++[((17,0,0,0,0,0):AK)]) b))++[((16,0,0,0,0,0):AK)]).length:Int),((((AF f ((AF f l a)++[((17,0,0,0,0,0):AK)]) b))++[((16,0,0,0,0,0):AK)]).getD ((AF f l a).length) default).2.2))
 have k3:=h1.put 0 (by simp) a3 Hn
 refine EQ [(1,.slice (some ⟨b0,0,none⟩) ((Aq (((AF f ((AF f l a)++[((17,0,0,0,0,0):AK)]) b))++[((16,0,0,0,0,0):AK)]) ((AF f l a).length) (((((AF f ((AF f l a)++[((17,0,0,0,0,0):AK)]) b))++[((16,0,0,0,0,0):AK)]).length:Int))).length) c0),(3,.pointer (some ⟨t.heap.size,0,none⟩)),(5,.pointer z10),(6,.slice none 0 0),(8,D ((((AF f ((AF f l a)++[((17,0,0,0,0,0):AK)]) b)).length:Int)))] (by simp only [Dk]; kernel_rfl) fun u4=>?_
 refine AC lb k3 [(1,0)] fun c4 i3=>?_
 refine AM false (fun h=>nomatch h) (fun _=>?_)
 refine AC la i3 [] fun a4 g3=>?_
 refine AM false (fun h=>nomatch h) (fun _=>?_)
 refine Al 11 SE g3 [] fun a1 f0=>?_
 obtain ⟨i0,h0,b1,d2⟩:=e0 2 j rfl
 refine C4 Lp 8 ?_
 refine C5 (i:=2) (v:=.pointer z9) (Lp.getD 2 default) (fun _ _ _ h=>nomatch h.1) ?_
 let z6:List Value:=[D j.op,D j.num,D j.den,D j.mu,D j.hu,D j.du,.string ⟨⟨j.nm⟩⟩,D j.cnt,D j.md,.slice i0 j.ks.length h0]
 refine CG (md:=.any) (fuel:=2) (L:=[AN 0 [] (.agg ⟨[.slice p0aaA p0aan p0aac,.slice p0abA p0abn p0abc,.slice p0acA p0acn p0acc,.slice p0adA p0adn p0adc,.map (some bi),.map (some bs),.map (some bp),.map (some br)]⟩),AN 1 [] (.slice (some ⟨b0,0,none⟩) ((Aq (((AF f ((AF f l a)++[((17,0,0,0,0,0):AK)]) b))++[((16,0,0,0,0,0):AK)]) ((AF f l a).length) (((((AF f ((AF f l a)++[((17,0,0,0,0,0):AK)]) b))++[((16,0,0,0,0,0):AK)]).length:Int))).length) c0),AN 3 [] (.slice (some ⟨z,m,none⟩) 3 o),AN 4 [3] (.pointer (some ⟨z,m + 2 * 10,none⟩)),AN 5 [3,4] (.agg ⟨z6⟩)]) (W:=mF) (C:=fun u=>Below a1.heap.size a1 u) (Ext:=Ck) (Below.refl _ _).drew Ck.refl (fun _ _ _=>Ck.trans) ⟨?_,?_,?_,?_,?_,trivial⟩ rfl ?_
 ·refine ⟨fun _ _ _ _ _ h=>h,fun d u hu hb=>?_⟩
  exact AH.knownE [] (by kernel_rfl) trivial (AH.reads ⟨0,_,(0,0),[]⟩ (Az f0.G hu) (.agg ⟨[.slice p0aaA p0aan p0aac,.slice p0abA p0abn p0abc,.slice p0acA p0acn p0acc,.slice p0adA p0adn p0adc,.map (some bi),.map (some bs),.map (some bp),.map (some br)]⟩) ⟨hu,.refl _,rfl⟩)
 ·refine ⟨fun _ _ _ _ _ h=>h,fun d u hu hb=>?_⟩
  exact AH.knownE [] (by kernel_rfl) trivial (AH.reads ⟨0,[],(0,0),[]⟩ (fun e he=>by cases he) (.slice (some ⟨b0,0,none⟩) ((Aq (((AF f ((AF f l a)++[((17,0,0,0,0,0):AK)]) b))++[((16,0,0,0,0,0):AK)]) ((AF f l a).length) (((((AF f ((AF f l a)++[((17,0,0,0,0,0):AK)]) b))++[((16,0,0,0,0,0):AK)]).length:Int))).length) c0) ⟨hu,.refl _,rfl⟩)
 ·refine ⟨fun _ _ _ _ _ h=>h,fun d u hu hb=>?_⟩
  exact AH.knownE [] (by kernel_rfl) trivial (AH.reads ⟨0,_,(1,9),[]⟩ (Az f0.G hu) (.slice (some ⟨z,m,none⟩) 3 o) ⟨hu,.refl _,rfl⟩)
 ·refine ⟨fun _ _ _ _ _ h=>h,fun d u hu hb=>?_⟩
  obtain ⟨h3,_⟩:=hb
  exact AH.knownE [(53,3,.slice (some ⟨z,m,none⟩) 3 o)] (by kernel_rfl) ⟨(List.cons.inj h3).1,trivial⟩ (AH.value (h:=(Bd (sz:=10) (cap:=o) 30 (.tmp 53) (.const (D 2)) rfl rfl (by decide) Tryz.underlying30)) ⟨hu,.refl _,rfl⟩)
 ·refine ⟨fun _ _ _ _ _ h=>h,fun d u hu hb=>?_⟩
  obtain ⟨h3,h4,_⟩:=hb
  exact AH.knownE [(54,4,.pointer (some ⟨z,m + 2 * 10,none⟩))] (by kernel_rfl) ⟨(List.cons.inj h4).1,trivial⟩ (AH.reads ⟨0,[⟨z,m + 2 * 10,z6,32,false⟩],(0,0),[]⟩ (fun e he=>by rw [List.mem_singleton.1 he]; exact ⟨Nat.lt_of_lt_of_le v0 (f0.B.trans (hu.mono f0.B.size)).size,Ac b1 v0 (f0.B.trans (hu.mono f0.B.size))⟩) (.agg ⟨z6⟩) ⟨hu,.refl _,rfl⟩)
 intro d z1 r1 _ d0
 replace r1:Below a1.heap.size a1 z1:=r1
 obtain ⟨x0,x1,x3,x4,x5,_⟩:=d0
 have h2:=f0.below r1
 refine DN [(1,.slice (some ⟨b0,0,none⟩) ((Aq (((AF f ((AF f l a)++[((17,0,0,0,0,0):AK)]) b))++[((16,0,0,0,0,0):AK)]) ((AF f l a).length) (((((AF f ((AF f l a)++[((17,0,0,0,0,0):AK)]) b))++[((16,0,0,0,0,0):AK)]).length:Int))).length) c0),(6,.slice none 0 0),(8,D ((((AF f ((AF f l a)++[((17,0,0,0,0,0):AK)]) b)).length:Int))),(50,d 0),(51,d 1),(55,d 5)] fun t4=>?_
 rw [show d 0=.agg ⟨[.slice p0aaA p0aan p0aac,.slice p0abA p0abn p0abc,.slice p0acA p0acn p0acc,.slice p0adA p0adn p0adc,.map (some bi),.map (some bs),.map (some bp),.map (some br)]⟩ from (List.cons.inj x0).1]
 rw [show d 1=.slice (some ⟨b0,0,none⟩) ((Aq (((AF f ((AF f l a)++[((17,0,0,0,0,0):AK)]) b))++[((16,0,0,0,0,0):AK)]) ((AF f l a).length) (((((AF f ((AF f l a)++[((17,0,0,0,0,0):AK)]) b))++[((16,0,0,0,0,0):AK)]).length:Int))).length) c0 from (List.cons.inj x1).1]
 rw [show d 5=.agg ⟨z6⟩ from (List.cons.inj x5).1]
 have Kf:=(h2.pickL (L':=[(Cj (some ⟨b0,0,none⟩) c0 (Aq (((AF f ((AF f l a)++[((17,0,0,0,0,0):AK)]) b))++[((16,0,0,0,0,0):AK)]) ((AF f l a).length) (((((AF f ((AF f l a)++[((17,0,0,0,0,0):AK)]) b))++[((16,0,0,0,0,0):AK)]).length:Int))))]++[]) [0] rfl (by decide)).front
 refine Gh (i:=6) (ats:=#[75,47,32]) (Lp.getD 6 default) 22 [.tmp 50,.tmp 51,.tmp 55] [.agg ⟨[.slice p0aaA p0aan p0aac,.slice p0abA p0abn p0abc,.slice p0acA p0acn p0acc,.slice p0adA p0adn p0adc,.map (some bi),.map (some bs),.map (some bp),.map (some br)]⟩,.slice (some ⟨b0,0,none⟩) ((Aq (((AF f ((AF f l a)++[((17,0,0,0,0,0):AK)]) b))++[((16,0,0,0,0,0):AK)]) ((AF f l a).length) (((((AF f ((AF f l a)++[((17,0,0,0,0,0):AK)]) b))++[((16,0,0,0,0,0):AK)]).length:Int))).length) c0,.agg ⟨z6⟩] ((n1 _ (some ⟨b0,0,none⟩) (Aq (((AF f ((AF f l a)++[((17,0,0,0,0,0):AK)]) b))++[((16,0,0,0,0,0):AK)]) ((AF f l a).length) (((((AF f ((AF f l a)++[((17,0,0,0,0,0):AK)]) b))++[((16,0,0,0,0,0):AK)]).length:Int))) c0 j i0 h0 z1 d2 (s _ (by simp)) (by ((try simp only [maxLen,Dk,List.length_set,List.length_append,List.length_cons,List.length_nil,List.length_singleton]) <;> omega)) h2.B Kf).mono fun en z3 hh=>?_)
 obtain ⟨v1,y,rfl,z2,Hn⟩:=hh
 refine ⟨_,rfl,?_⟩
 have f3:=Wk.unfront z2 Hn
 have m2:=HZ p1 (Aq (((AF f ((AF f l a)++[((17,0,0,0,0,0):AK)]) b))++[((16,0,0,0,0,0):AK)]) ((AF f l a).length) (((((AF f ((AF f l a)++[((17,0,0,0,0,0):AK)]) b))++[((16,0,0,0,0,0):AK)]).length:Int))) (k:=j) (s _ (by simp))
 try simp only [Dk,List.length_append,List.length_cons,List.length_nil,List.length_singleton] at m2
 refine L4 (i:=7) f3 (Lp.getD 7 default) [⟨t.heap.size,0,[.slice p0aaA p0aan p0aac,.slice p0abA p0abn p0abc,.slice p0acA p0acn p0acc,.slice p0adA p0adn p0adc,.map (some bi),.map (some bs),.map (some bp),.map (some br)],75,true⟩,⟨t.heap.size + 1,0,z7,32,true⟩,⟨w5.heap.size,0,z8,53,true⟩,⟨m1.heap.size,0,[D 16,D 0,D 0,D 0,D 0,D 0],53,true⟩] (0,0) (.slice v1 (((AF f (Aq (((AF f ((AF f l a)++[((17,0,0,0,0,0):AK)]) b))++[((16,0,0,0,0,0):AK)]) ((AF f l a).length) (((((AF f ((AF f l a)++[((17,0,0,0,0,0):AK)]) b))++[((16,0,0,0,0,0):AK)]).length:Int))) j)).length) y) fun y3 g1=>?_
 refine Cy ⟨rfl,At.mid ?_⟩
 obtain ⟨e1,rfl,r3⟩:=g1.H.rowAt (g1.ix 0) (g1.at 0 rfl) (by ((try simp only [maxLen,Dk,List.length_set,List.length_append,List.length_cons,List.length_nil,List.length_singleton]) <;> omega))
 have v2:((AF f (Aq (((AF f ((AF f l a)++[((17,0,0,0,0,0):AK)]) b))++[((16,0,0,0,0,0):AK)]) ((AF f l a).length) (((((AF f ((AF f l a)++[((17,0,0,0,0,0):AK)]) b))++[((16,0,0,0,0,0):AK)]).length:Int))) j))[((AF f ((AF f l a)++[((17,0,0,0,0,0):AK)]) b)).length]?=some (((AF f (Aq (((AF f ((AF f l a)++[((17,0,0,0,0,0):AK)]) b))++[((16,0,0,0,0,0):AK)]) ((AF f l a).length) (((((AF f ((AF f l a)++[((17,0,0,0,0,0):AK)]) b))++[((16,0,0,0,0,0):AK)]).length:Int))) j)).getD ((AF f ((AF f l a)++[((17,0,0,0,0,0):AK)]) b)).length default):=getD_some default (by ((try simp only [maxLen,Dk,List.length_set,List.length_append,List.length_cons,List.length_nil,List.length_singleton]) <;> omega))
 refine BG Ai TU g1 [] fun w3 e3=>?_
 refine BH (g:=e1) (off:=0) (cap:=y) (sz:=6) (k:=(((AF f ((AF f l a)++[((17,0,0,0,0,0):AK)]) b)).length)) (len:=((AF f (Aq (((AF f ((AF f l a)++[((17,0,0,0,0,0):AK)]) b))++[((16,0,0,0,0,0):AK)]) ((AF f l a).length) (((((AF f ((AF f l a)++[((17,0,0,0,0,0):AK)]) b))++[((16,0,0,0,0,0):AK)]).length:Int))) j)).length) (some 76) (by ((try simp only [maxLen,Dk,List.length_set,List.length_append,List.length_cons,List.length_nil,List.length_singleton]) <;> omega)) Tryz.underlying47 ?_
 refine BG IG bC e3 [] fun v3 f1=>?_
 refine F9 f1.H (f1.ix 0) (f1.at 0 rfl) (((AF f ((AF f l a)++[((17,0,0,0,0,0):AK)]) b)).length) (((AF f (Aq (((AF f ((AF f l a)++[((17,0,0,0,0,0):AK)]) b))++[((16,0,0,0,0,0):AK)]) ((AF f l a).length) (((((AF f ((AF f l a)++[((17,0,0,0,0,0):AK)]) b))++[((16,0,0,0,0,0):AK)]).length:Int))) j)).getD (((AF f ((AF f l a)++[((17,0,0,0,0,0):AK)]) b)).length) default) v2 1 (by decide) (D ((((AF f (Aq (((AF f ((AF f l a)++[((17,0,0,0,0,0):AK)]) b))++[((16,0,0,0,0,0):AK)]) ((AF f l a).length) (((((AF f ((AF f l a)++[((17,0,0,0,0,0):AK)]) b))++[((16,0,0,0,0,0):AK)]).length:Int))) j)).length:Int))) (fun r h=>by rw [h]; rfl) (fun _ _ h=>by rw [h]; rfl) 3 none (by kernel_rfl) (by kernel_rfl) rfl rfl (fun u3 Hn y2 q4=>?_) (e':=((((AF f (Aq (((AF f ((AF f l a)++[((17,0,0,0,0,0):AK)]) b))++[((16,0,0,0,0,0):AK)]) ((AF f l a).length) (((((AF f ((AF f l a)++[((17,0,0,0,0,0):AK)]) b))++[((16,0,0,0,0,0):AK)]).length:Int))) j)).getD (((AF f ((AF f l a)++[((17,0,0,0,0,0):AK)]) b)).length) default).1,(((AF f (Aq (((AF f ((AF f l a)++[((17,0,0,0,0,0):AK)]) b))++[((16,0,0,0,0,0):AK)]) ((AF f l a).length) (((((AF f ((AF f l a)++[((17,0,0,0,0,0):AK)]) b))++[((16,0,0,0,0,0):AK)]).length:Int))) j)).length:Int),(((AF f (Aq (((AF f ((AF f l a)++[((17,0,0,0,0,0):AK)]) b))++[((16,0,0,0,0,0):AK)]) ((AF f l a).length) (((((AF f ((AF f l a)++[((17,0,0,0,0,0):AK)]) b))++[((16,0,0,0,0,0):AK)]).length:Int))) j)).getD (((AF f ((AF f l a)++[((17,0,0,0,0,0):AK)]) b)).length) default).2.2))
 have d3:=f1.put 0 (by simp) y2 Hn
 refine EQ [(1,.slice (some ⟨e1,0,none⟩) ((Aq ((AF f (Aq (((AF f ((AF f l a)++[((17,0,0,0,0,0):AK)]) b))++[((16,0,0,0,0,0):AK)]) ((AF f l a).length) (((((AF f ((AF f l a)++[((17,0,0,0,0,0):AK)]) b))++[((16,0,0,0,0,0):AK)]).length:Int))) j)) (((AF f ((AF f l a)++[((17,0,0,0,0,0):AK)]) b)).length) ((((AF f (Aq (((AF f ((AF f l a)++[((17,0,0,0,0,0):AK)]) b))++[((16,0,0,0,0,0):AK)]) ((AF f l a).length) (((((AF f ((AF f l a)++[((17,0,0,0,0,0):AK)]) b))++[((16,0,0,0,0,0):AK)]).length:Int))) j)).length:Int))).length) y),(6,.slice none 0 0)] (by simp only [Dk]; kernel_rfl) fun s4=>?_
 refine AC qt d3 [] fun t3 t1=>?_
 have hS:(JD f l a b j)=Aq ((AF f (Aq (((AF f ((AF f l a)++[((17,0,0,0,0,0):AK)]) b))++[((16,0,0,0,0,0):AK)]) ((AF f l a).length) (((((AF f ((AF f l a)++[((17,0,0,0,0,0):AK)]) b))++[((16,0,0,0,0,0):AK)]).length:Int))) j)) (((AF f ((AF f l a)++[((17,0,0,0,0,0):AK)]) b)).length) ((((AF f (Aq (((AF f ((AF f l a)++[((17,0,0,0,0,0):AK)]) b))++[((16,0,0,0,0,0):AK)]) ((AF f l a).length) (((((AF f ((AF f l a)++[((17,0,0,0,0,0):AK)]) b))++[((16,0,0,0,0,0):AK)]).length:Int))) j)).length:Int)):=by unfold JD; rfl
 exact Ab t1 (0,0) (.slice (some ⟨e1,0,none⟩) ((Aq ((AF f (Aq (((AF f ((AF f l a)++[((17,0,0,0,0,0):AK)]) b))++[((16,0,0,0,0,0):AK)]) ((AF f l a).length) (((((AF f ((AF f l a)++[((17,0,0,0,0,0):AK)]) b))++[((16,0,0,0,0,0):AK)]).length:Int))) j)) (((AF f ((AF f l a)++[((17,0,0,0,0,0):AK)]) b)).length) ((((AF f (Aq (((AF f ((AF f l a)++[((17,0,0,0,0,0):AK)]) b))++[((16,0,0,0,0,0):AK)]) ((AF f l a).length) (((((AF f ((AF f l a)++[((17,0,0,0,0,0):AK)]) b))++[((16,0,0,0,0,0):AK)]).length:Int))) j)).length:Int))).length) y) ⟨(some ⟨e1,0,none⟩),y,by rw [hS] <;> rfl,t1.B,by rw [hS]; exact t1.own [0] rfl (by decide)⟩
def IY (f:Ex→Nat→List AK) (l:List AK) (k0:Ex) (k1:Ex):List AK:=Aq ((Aq (((AF f ((AF f l k0)++[((17,0,0,0,0,0):AK)]) k1))++[((16,0,0,0,0,0):AK)]) ((AF f l k0).length) (((((AF f ((AF f l k0)++[((17,0,0,0,0,0):AK)]) k1))++[((16,0,0,0,0,0):AK)]).length:Int)))++[(AZ 0)]) (((AF f ((AF f l k0)++[((17,0,0,0,0,0):AK)]) k1)).length) ((((Aq (((AF f ((AF f l k0)++[((17,0,0,0,0,0):AK)]) k1))++[((16,0,0,0,0,0):AK)]) ((AF f l k0).length) (((((AF f ((AF f l k0)++[((17,0,0,0,0,0):AK)]) k1))++[((16,0,0,0,0,0):AK)]).length:Int)))++[(AZ 0)]).length:Int))
noncomputable def Us:Code:=Tryz.f54.body.getD .skip
def PD:=Ad 1 ([.code Us])
def Lr:Array Oper:=(C6 PD).getD #[]
def mH:Wr:=[(9,0),(10,1),(12,3),(13,4),(14,5)]
def TX:=AB (BA Bb 90 (AP PD)) (AP PD)
def bF:=AB 60 (AE TX)
def PC:=Ad 6 (AL bF)
def Lq:Array Oper:=(C6 PC).getD #[]
def mG:Wr:=[(29,0),(30,1),(32,3),(33,4),(34,5)]
def PB:=AB (BA Bb 90 (AP PC)) (AP PC)
def TW:=AB (BA Ai 90 (AE PB)) (AE PB)
def bE:=AB (BA IG 90 (AE TW)) (AE TW)
def bD:=AB 60 (AE bE)
def TV:=AB 60 (AG bD)
def PA:=AB (BA Bb 90 (AE TV)) (AE TV)
def QQ:=AB (BA Ai 90 (AE PA)) (AE PA)
def Vj:=AB (BA IG 90 (AE QQ)) (AE QQ)
def mN:=AB 60 (AE Vj)
theorem Rs (L:List Th) (f:Ex→Nat→List AK) (p0aaA:Option Addr) (p0aan p0aac:Nat) (p0abA:Option Addr) (p0abn p0abc:Nat) (p0acA:Option Addr) (p0acn p0acc:Nat) (p0adA:Option Addr) (p0adn p0adc bi:Nat) (mi:List (List UInt8×Int)) (bs:Nat) (ms:List (List UInt8×Int)) (bp:Nat) (mp:List (List UInt8×Int)) (z:Nat) (mr:List (List UInt8×Int)) (p:Option Addr) (l:List AK) (o:Nat) (x:Ex) (s:Option Addr) (a b:Ex) (j:Nat) (w q:World) (i2:AY.at BL bi mi w) (f2:AY.at BL bs ms w) (h2:AY.at BL bp mp w) (g2:AY.at BL z mr w) (q1:rowsEx w s [a,b]) (n1:∀ (L:List Th) (p:Option Addr) (l:List AK) (o:Nat) (x':Ex) (s:Option Addr) (j:Nat) (q:World),rowsEx w s x'.ks→C9 x'→l.length + 4 * nE x'≤400000000→Below w.heap.size w q→AU w.heap.size q ([Cj p o l]++L)→Calls Tryz.prog 22 ([.agg ⟨[.slice p0aaA p0aan p0aac,.slice p0abA p0abn p0abc,.slice p0acA p0acn p0acc,.slice p0adA p0adn p0adc,.map (some bi),.map (some bs),.map (some bp),.map (some z)]⟩,.slice p l.length o,.agg ⟨CW x' s j⟩]:List Value).toArray q fun e w'=>∃ (f0:Option Addr) (e0:Nat),e=.returned (.slice f0 (AF f l x').length e0)∧Below w.heap.size w w'∧AU w.heap.size w' ([Cj f0 e0 (AF f l x')]++L)) (t:∀ k∈[a,b],C9 k) (p1:∀ k n,C9 k→(f k n).length≤4 * nE k) (hb:l.length + 4 * (nE a + nE b) + 4≤400000000) (B:Below w.heap.size w q) (H:AU w.heap.size q ([(Cj p o l)]++L)):Calls Tryz.prog 54 ([.agg ⟨[.slice p0aaA p0aan p0aac,.slice p0abA p0abn p0abc,.slice p0acA p0acn p0acc,.slice p0adA p0adn p0adc,.map (some bi),.map (some bs),.map (some bp),.map (some z)]⟩,.slice p l.length o,.agg ⟨[D 12,D x.num,D x.den,D x.mu,D x.hu,D x.du,.string ⟨⟨x.nm⟩⟩,D x.cnt,D x.md,.slice s 2 j]⟩]:List Value).toArray q fun e w'=>∃ (f0:Option Addr) (e0:Nat),e=.returned (.slice f0 ((IY f l a b).length) e0)∧Below w.heap.size w w'∧AU w.heap.size w' ([Cj f0 e0 (IY f l a b)]++L):=by
 refine Af (fn:=Tryz.f54) (c:=Us) (n:=79) ?_
 have K1:Wk w q [] [(Cj p o l)] L:=⟨B,H⟩
 clear B H
 refine CR 1 PD [⟨q.heap.size,0,[.slice p0aaA p0aan p0aac,.slice p0abA p0abn p0abc,.slice p0acA p0acn p0acc,.slice p0adA p0adn p0adc,.map (some bi),.map (some bs),.map (some bp),.map (some z)],75,true⟩,⟨q.heap.size + 1,0,[D 12,D x.num,D x.den,D x.mu,D x.hu,D x.du,.string ⟨⟨x.nm⟩⟩,D x.cnt,D x.md,.slice s 2 j],32,true⟩] K1 [] fun w1 K2=>?_
 obtain ⟨y,m,rfl,v0,h0⟩:=q1.all (by simp)
 obtain ⟨d0,c0,t0,s1⟩:=h0 0 a rfl
 refine C4 Lr 8 ?_
 refine C5 (i:=2) (v:=.pointer (some ⟨q.heap.size + 1,9,none⟩)) (Lr.getD 2 default) (fun _ _ _ h=>nomatch h.1) ?_
 let z4:List Value:=[D a.op,D a.num,D a.den,D a.mu,D a.hu,D a.du,.string ⟨⟨a.nm⟩⟩,D a.cnt,D a.md,.slice d0 a.ks.length c0]
 refine CG (md:=.any) (fuel:=2) (L:=[AN 0 [] (.agg ⟨[.slice p0aaA p0aan p0aac,.slice p0abA p0abn p0abc,.slice p0acA p0acn p0acc,.slice p0adA p0adn p0adc,.map (some bi),.map (some bs),.map (some bp),.map (some z)]⟩),AN 1 [] (.slice p l.length o),AN 3 [] (.slice (some ⟨y,m,none⟩) 2 j),AN 4 [3] (.pointer (some ⟨y,m + 0 * 10,none⟩)),AN 5 [3,4] (.agg ⟨z4⟩)]) (W:=mH) (C:=fun u=>Below w1.heap.size w1 u) (Ext:=Ck) (Below.refl _ _).drew Ck.refl (fun _ _ _=>Ck.trans) ⟨?_,?_,?_,?_,?_,trivial⟩ rfl ?_
 ·refine ⟨fun _ _ _ _ _ h=>h,fun d u hu hb=>?_⟩
  exact AH.knownE [] (by kernel_rfl) trivial (AH.reads ⟨0,_,(0,0),[]⟩ (Az K2.G hu) (.agg ⟨[.slice p0aaA p0aan p0aac,.slice p0abA p0abn p0abc,.slice p0acA p0acn p0acc,.slice p0adA p0adn p0adc,.map (some bi),.map (some bs),.map (some bp),.map (some z)]⟩) ⟨hu,.refl _,rfl⟩)
 ·refine ⟨fun _ _ _ _ _ h=>h,fun d u hu hb=>?_⟩
  exact AH.knownE [] (by kernel_rfl) trivial (AH.reads ⟨0,[],(0,0),[]⟩ (fun e he=>by cases he) (.slice p l.length o) ⟨hu,.refl _,rfl⟩)
 ·refine ⟨fun _ _ _ _ _ h=>h,fun d u hu hb=>?_⟩
  exact AH.knownE [] (by kernel_rfl) trivial (AH.reads ⟨0,_,(1,9),[]⟩ (Az K2.G hu) (.slice (some ⟨y,m,none⟩) 2 j) ⟨hu,.refl _,rfl⟩)
 ·refine ⟨fun _ _ _ _ _ h=>h,fun d u hu hb=>?_⟩
  obtain ⟨h3,_⟩:=hb
  exact AH.knownE [(12,3,.slice (some ⟨y,m,none⟩) 2 j)] (by kernel_rfl) ⟨(List.cons.inj h3).1,trivial⟩ (AH.value (h:=(Bd (sz:=10) (cap:=j) 30 (.tmp 12) (.const (D 0)) rfl rfl (by decide) Tryz.underlying30)) ⟨hu,.refl _,rfl⟩)
 ·refine ⟨fun _ _ _ _ _ h=>h,fun d u hu hb=>?_⟩
  obtain ⟨h3,h4,_⟩:=hb
  exact AH.knownE [(13,4,.pointer (some ⟨y,m + 0 * 10,none⟩))] (by kernel_rfl) ⟨(List.cons.inj h4).1,trivial⟩ (AH.reads ⟨0,[⟨y,m + 0 * 10,z4,32,false⟩],(0,0),[]⟩ (fun e he=>by rw [List.mem_singleton.1 he]; exact ⟨Nat.lt_of_lt_of_le v0 (K2.B.trans (hu.mono K2.B.size)).size,Ac t0 v0 (K2.B.trans (hu.mono K2.B.size))⟩) (.agg ⟨z4⟩) ⟨hu,.refl _,rfl⟩)
 intro d w2 b2 _ i0
 replace b2:Below w1.heap.size w1 w2:=b2
 obtain ⟨x0,x1,x3,x4,x5,_⟩:=i0
 have K3:=K2.below b2
 let z9:Option Addr:=some ⟨q.heap.size + 1,0,none⟩
 refine DN [(1,.slice p l.length o),(3,.pointer (some ⟨q.heap.size,0,none⟩)),(5,.pointer z9),(6,.slice none 0 0),(9,d 0),(10,d 1),(14,d 5)] fun E2=>?_
 rw [show d 0=.agg ⟨[.slice p0aaA p0aan p0aac,.slice p0abA p0abn p0abc,.slice p0acA p0acn p0acc,.slice p0adA p0adn p0adc,.map (some bi),.map (some bs),.map (some bp),.map (some z)]⟩ from (List.cons.inj x0).1]
 rw [show d 1=.slice p l.length o from (List.cons.inj x1).1]
 rw [show d 5=.agg ⟨z4⟩ from (List.cons.inj x5).1]
 have Kf:=(K3.pickL (L':=[(Cj p o l)]++[]) [0] rfl (by decide)).front
 refine Gh (i:=6) (ats:=#[75,47,32]) (Lr.getD 6 default) 22 [.tmp 9,.tmp 10,.tmp 14] [.agg ⟨[.slice p0aaA p0aan p0aac,.slice p0abA p0abn p0abc,.slice p0acA p0acn p0acc,.slice p0adA p0adn p0adc,.map (some bi),.map (some bs),.map (some bp),.map (some z)]⟩,.slice p l.length o,.agg ⟨z4⟩] ((n1 _ p l o a d0 c0 w2 s1 (t _ (by simp)) (by ((try simp only [maxLen,Dk,List.length_set,List.length_append,List.length_cons,List.length_nil,List.length_singleton]) <;> omega)) K3.B Kf).mono fun en w4 hh=>?_)
 obtain ⟨a2,v1,rfl,b4,Hn⟩:=hh
 refine ⟨_,rfl,?_⟩
 have K4:=Wk.unfront b4 Hn
 have e2:=HZ p1 l (k:=a) (t _ (by simp))
 try simp only [Dk,List.length_append,List.length_cons,List.length_nil,List.length_singleton] at e2
 refine EB (i:=7) K4 (Lr.getD 7 default) (0,0) (.slice a2 ((AF f l a).length) v1) fun w5 K5=>?_
 refine Cy ⟨rfl,At.mid ?_⟩
 let z6:List Value:=[D 12,D x.num,D x.den,D x.mu,D x.hu,D x.du,.string ⟨⟨x.nm⟩⟩,D x.cnt,D x.md,.slice (some ⟨y,m,none⟩) 2 j]
 let z8:List Value:=[D 17,D 0,D 0,D 0,D 0,D 0]
 refine Cb Bb TX [⟨q.heap.size,0,[.slice p0aaA p0aan p0aac,.slice p0abA p0abn p0abc,.slice p0acA p0acn p0acc,.slice p0adA p0adn p0adc,.map (some bi),.map (some bs),.map (some bp),.map (some z)],75,true⟩,⟨q.heap.size + 1,0,z6,32,true⟩,⟨w5.heap.size,0,z8,53,true⟩] K5 [] fun w6 K6=>?_
 refine Ch K6.H (K6.ix 0) (K6.at 0 rfl) (((17,0,0,0,0,0):AK)) z8 rfl (w5.heap.size) (K6.ent 2 (by kernel_rfl)) (DM TX) (by kernel_rfl) (.tmp 18) (.tmp 20) 47 (by kernel_rfl) (by kernel_rfl) (by kernel_rfl) (by decide) (by kernel_rfl) (by kernel_rfl) rfl rfl (by ((try simp only [maxLen,Dk,List.length_set,List.length_append,List.length_cons,List.length_nil,List.length_singleton]) <;> omega)) fun A7 c7 w7 Hn b7=>?_
 have K7:=K6.put 0 (by simp) b7 Hn
 refine AC bF K7 [(1,0)] fun w8 K8=>?_
 refine AM false (fun h=>nomatch h) (fun _=>?_)
 refine Al 6 PC K8 [] fun w9 K9=>?_
 obtain ⟨b0,a0,r0,r1⟩:=h0 1 b rfl
 refine C4 Lq 8 ?_
 refine C5 (i:=2) (v:=.pointer (some ⟨q.heap.size + 1,9,none⟩)) (Lq.getD 2 default) (fun _ _ _ h=>nomatch h.1) ?_
 let z5:List Value:=[D b.op,D b.num,D b.den,D b.mu,D b.hu,D b.du,.string ⟨⟨b.nm⟩⟩,D b.cnt,D b.md,.slice b0 b.ks.length a0]
 refine CG (md:=.any) (fuel:=2) (L:=[AN 0 [] (.agg ⟨[.slice p0aaA p0aan p0aac,.slice p0abA p0abn p0abc,.slice p0acA p0acn p0acc,.slice p0adA p0adn p0adc,.map (some bi),.map (some bs),.map (some bp),.map (some z)]⟩),AN 1 [] (.slice A7 (((AF f l a)++[((17,0,0,0,0,0):AK)]).length) c7),AN 3 [] (.slice (some ⟨y,m,none⟩) 2 j),AN 4 [3] (.pointer (some ⟨y,m + 1 * 10,none⟩)),AN 5 [3,4] (.agg ⟨z5⟩)]) (W:=mG) (C:=fun u=>Below w9.heap.size w9 u) (Ext:=Ck) (Below.refl _ _).drew Ck.refl (fun _ _ _=>Ck.trans) ⟨?_,?_,?_,?_,?_,trivial⟩ rfl ?_
 ·refine ⟨fun _ _ _ _ _ h=>h,fun d u hu hb=>?_⟩
  exact AH.knownE [] (by kernel_rfl) trivial (AH.reads ⟨0,_,(0,0),[]⟩ (Az K9.G hu) (.agg ⟨[.slice p0aaA p0aan p0aac,.slice p0abA p0abn p0abc,.slice p0acA p0acn p0acc,.slice p0adA p0adn p0adc,.map (some bi),.map (some bs),.map (some bp),.map (some z)]⟩) ⟨hu,.refl _,rfl⟩)
 ·refine ⟨fun _ _ _ _ _ h=>h,fun d u hu hb=>?_⟩
  exact AH.knownE [] (by kernel_rfl) trivial (AH.reads ⟨0,[],(0,0),[]⟩ (fun e he=>by cases he) (.slice A7 (((AF f l a)++[((17,0,0,0,0,0):AK)]).length) c7) ⟨hu,.refl _,rfl⟩)
 ·refine ⟨fun _ _ _ _ _ h=>h,fun d u hu hb=>?_⟩
  exact AH.knownE [] (by kernel_rfl) trivial (AH.reads ⟨0,_,(1,9),[]⟩ (Az K9.G hu) (.slice (some ⟨y,m,none⟩) 2 j) ⟨hu,.refl _,rfl⟩)
 ·refine ⟨fun _ _ _ _ _ h=>h,fun d u hu hb=>?_⟩
  obtain ⟨h3,_⟩:=hb
  exact AH.knownE [(32,3,.slice (some ⟨y,m,none⟩) 2 j)] (by kernel_rfl) ⟨(List.cons.inj h3).1,trivial⟩ (AH.value (h:=(Bd (sz:=10) (cap:=j) 30 (.tmp 32) (.const (D 1)) rfl rfl (by decide) Tryz.underlying30)) ⟨hu,.refl _,rfl⟩)
 ·refine ⟨fun _ _ _ _ _ h=>h,fun d u hu hb=>?_⟩
  obtain ⟨h3,h4,_⟩:=hb
  exact AH.knownE [(33,4,.pointer (some ⟨y,m + 1 * 10,none⟩))] (by kernel_rfl) ⟨(List.cons.inj h4).1,trivial⟩ (AH.reads ⟨0,[⟨y,m + 1 * 10,z5,32,false⟩],(0,0),[]⟩ (fun e he=>by rw [List.mem_singleton.1 he]; exact ⟨Nat.lt_of_lt_of_le v0 (K9.B.trans (hu.mono K9.B.size)).size,Ac r0 v0 (K9.B.trans (hu.mono K9.B.size))⟩) (.agg ⟨z5⟩) ⟨hu,.refl _,rfl⟩)
 intro d m1 f1 _ i0
 replace f1:Below w9.heap.size w9 m1:=f1
 obtain ⟨x0,x1,x3,x4,x5,_⟩:=i0
 have z1:=K9.below f1
 refine DN [(1,.slice A7 (((AF f l a)++[((17,0,0,0,0,0):AK)]).length) c7),(3,.pointer (some ⟨q.heap.size,0,none⟩)),(5,.pointer z9),(6,.slice none 0 0),(7,D (((AF f l a).length:Int))),(29,d 0),(30,d 1),(34,d 5)] fun e4=>?_
 rw [show d 0=.agg ⟨[.slice p0aaA p0aan p0aac,.slice p0abA p0abn p0abc,.slice p0acA p0acn p0acc,.slice p0adA p0adn p0adc,.map (some bi),.map (some bs),.map (some bp),.map (some z)]⟩ from (List.cons.inj x0).1]
 rw [show d 1=.slice A7 (((AF f l a)++[((17,0,0,0,0,0):AK)]).length) c7 from (List.cons.inj x1).1]
 rw [show d 5=.agg ⟨z5⟩ from (List.cons.inj x5).1]
 have Kf:=(z1.pickL (L':=[(Cj A7 c7 ((AF f l a)++[((17,0,0,0,0,0):AK)]))]++[]) [0] rfl (by decide)).front
 refine Gh (i:=6) (ats:=#[75,47,32]) (Lq.getD 6 default) 22 [.tmp 29,.tmp 30,.tmp 34] [.agg ⟨[.slice p0aaA p0aan p0aac,.slice p0abA p0abn p0abc,.slice p0acA p0acn p0acc,.slice p0adA p0adn p0adc,.map (some bi),.map (some bs),.map (some bp),.map (some z)]⟩,.slice A7 (((AF f l a)++[((17,0,0,0,0,0):AK)]).length) c7,.agg ⟨z5⟩] ((n1 _ A7 ((AF f l a)++[((17,0,0,0,0,0):AK)]) c7 b b0 a0 m1 r1 (t _ (by simp)) (by ((try simp only [maxLen,Dk,List.length_set,List.length_append,List.length_cons,List.length_nil,List.length_singleton]) <;> omega)) z1.B Kf).mono fun en w3 hh=>?_)
 obtain ⟨h1,e1,rfl,s2,Hn⟩:=hh
 refine ⟨_,rfl,?_⟩
 have c3:=Wk.unfront s2 Hn
 have d2:=HZ p1 ((AF f l a)++[((17,0,0,0,0,0):AK)]) (k:=b) (t _ (by simp))
 try simp only [Dk,List.length_append,List.length_cons,List.length_nil,List.length_singleton] at d2
 refine EB (i:=7) c3 (Lq.getD 7 default) (0,0) (.slice h1 (((AF f ((AF f l a)++[((17,0,0,0,0,0):AK)]) b)).length) e1) fun d1 b3=>?_
 refine Cy ⟨rfl,At.mid ?_⟩
 refine Cb Bb PB [⟨q.heap.size,0,[.slice p0aaA p0aan p0aac,.slice p0abA p0abn p0abc,.slice p0acA p0acn p0acc,.slice p0adA p0adn p0adc,.map (some bi),.map (some bs),.map (some bp),.map (some z)],75,true⟩,⟨q.heap.size + 1,0,z6,32,true⟩,⟨w5.heap.size,0,z8,53,true⟩,⟨d1.heap.size,0,[D 16,D 0,D 0,D 0,D 0,D 0],53,true⟩] b3 [] fun v3 q0=>?_
 refine Ch q0.H (q0.ix 0) (q0.at 0 rfl) (((16,0,0,0,0,0):AK)) [D 16,D 0,D 0,D 0,D 0,D 0] rfl (d1.heap.size) (q0.ent 3 (by kernel_rfl)) (DM PB) (by kernel_rfl) (.tmp 38) (.tmp 40) 47 (by kernel_rfl) (by kernel_rfl) (by kernel_rfl) (by decide) (by kernel_rfl) (by kernel_rfl) rfl rfl (by ((try simp only [maxLen,Dk,List.length_set,List.length_append,List.length_cons,List.length_nil,List.length_singleton]) <;> omega)) fun g4 y1 u3 Hn r2=>?_
 have c1:=q0.put 0 (by simp) r2 Hn
 obtain ⟨t1,rfl,e3⟩:=c1.H.rowAt (c1.ix 0) (c1.at 0 rfl) (by ((try simp only [maxLen,Dk,List.length_set,List.length_append,List.length_cons,List.length_nil,List.length_singleton]) <;> omega))
 have l2:(((AF f ((AF f l a)++[((17,0,0,0,0,0):AK)]) b))++[((16,0,0,0,0,0):AK)])[(AF f l a).length]?=some ((((AF f ((AF f l a)++[((17,0,0,0,0,0):AK)]) b))++[((16,0,0,0,0,0):AK)]).getD (AF f l a).length default):=getD_some default (by ((try simp only [maxLen,Dk,List.length_set,List.length_append,List.length_cons,List.length_nil,List.length_singleton]) <;> omega))
 refine BG Ai TW c1 [] fun t3 a3=>?_
 refine BH (g:=t1) (off:=0) (cap:=y1) (sz:=6) (k:=((AF f l a).length)) (len:=(((AF f ((AF f l a)++[((17,0,0,0,0,0):AK)]) b))++[((16,0,0,0,0,0):AK)]).length) (some 46) (by ((try simp only [maxLen,Dk,List.length_set,List.length_append,List.length_cons,List.length_nil,List.length_singleton]) <;> omega)) Tryz.underlying47 ?_
 refine BG IG bE a3 [] fun s3 b1=>?_
 refine F9 b1.H (b1.ix 0) (b1.at 0 rfl) ((AF f l a).length) ((((AF f ((AF f l a)++[((17,0,0,0,0,0):AK)]) b))++[((16,0,0,0,0,0):AK)]).getD ((AF f l a).length) default) l2 1 (by decide) (D (((((AF f ((AF f l a)++[((17,0,0,0,0,0):AK)]) b))++[((16,0,0,0,0,0):AK)]).length:Int))) (fun r h=>by rw [h]; rfl) (fun _ _ h=>by rw [h]; rfl) 3 none (by kernel_rfl) (by kernel_rfl) rfl rfl (fun r3 Hn q2 z3=>?_) (e':=(((((AF f ((AF f l a)++[((17,0,0,0,0,0):AK)]) b))++[((16,0,0,0,0,0):AK)]).getD ((AF f l a).length) default).1,((((AF f ((AF f l a)++[((17,0,0,0,0,0):AK)]) b))++[((16,0,0,0,0,0):AK)]).length:Int),((((AF f ((AF f l a)++[((17,0,0,0,0,0):AK)]) b))++[((16,0,0,0,0,0):AK)]).getD ((AF f l a).length) default).2.2))
 have z2:=b1.put 0 (by simp) q2 Hn
 refine EQ [(1,.slice (some ⟨t1,0,none⟩) ((Aq (((AF f ((AF f l a)++[((17,0,0,0,0,0):AK)]) b))++[((16,0,0,0,0,0):AK)]) ((AF f l a).length) (((((AF f ((AF f l a)++[((17,0,0,0,0,0):AK)]) b))++[((16,0,0,0,0,0):AK)]).length:Int))).length) y1),(3,.pointer (some ⟨q.heap.size,0,none⟩)),(5,.pointer z9),(6,.slice none 0 0),(8,D ((((AF f ((AF f l a)++[((17,0,0,0,0,0):AK)]) b)).length:Int)))] (by simp only [Dk]; kernel_rfl) fun c4=>?_
 refine AC bD z2 [(1,0)] fun q3 y2=>?_
 refine AM true (fun _=>?_) (fun h=>nomatch h)
 refine AC TV y2 [] fun c2 x2=>?_
 refine Ap x2 (N9 0 c2) fun i1 v2=>?_
 let z7:List Value:=[D ((AZ 0).1),D ((AZ 0).2.1),D ((AZ 0).2.2.1),D ((AZ 0).2.2.2.1),D ((AZ 0).2.2.2.2.1),D ((AZ 0).2.2.2.2.2)]
 refine Cb Bb PA [⟨q.heap.size,0,[.slice p0aaA p0aan p0aac,.slice p0abA p0abn p0abc,.slice p0acA p0acn p0acc,.slice p0adA p0adn p0adc,.map (some bi),.map (some bs),.map (some bp),.map (some z)],75,true⟩,⟨q.heap.size + 1,0,z6,32,true⟩,⟨w5.heap.size,0,z8,53,true⟩,⟨d1.heap.size,0,[D 16,D 0,D 0,D 0,D 0,D 0],53,true⟩,⟨i1.heap.size,0,z7,53,true⟩] v2 [] fun m3 p0=>?_
 refine Ch p0.H (p0.ix 0) (p0.at 0 rfl) (AZ 0) z7 rfl (i1.heap.size) (p0.ent 4 (by kernel_rfl)) (DM PA) (by kernel_rfl) (.tmp 59) (.tmp 61) 47 (by kernel_rfl) (by kernel_rfl) (by kernel_rfl) (by decide) (by kernel_rfl) (by kernel_rfl) rfl rfl (by ((try simp only [maxLen,Dk,List.length_set,List.length_append,List.length_cons,List.length_nil,List.length_singleton]) <;> omega)) fun f4 y0 l3 Hn p2=>?_
 have a1:=p0.put 0 (by simp) p2 Hn
 obtain ⟨w0,rfl,d3⟩:=a1.H.rowAt (a1.ix 0) (a1.at 0 rfl) (by ((try simp only [maxLen,Dk,List.length_set,List.length_append,List.length_cons,List.length_nil,List.length_singleton]) <;> omega))
 have k2:((Aq (((AF f ((AF f l a)++[((17,0,0,0,0,0):AK)]) b))++[((16,0,0,0,0,0):AK)]) ((AF f l a).length) (((((AF f ((AF f l a)++[((17,0,0,0,0,0):AK)]) b))++[((16,0,0,0,0,0):AK)]).length:Int)))++[(AZ 0)])[((AF f ((AF f l a)++[((17,0,0,0,0,0):AK)]) b)).length]?=some (((Aq (((AF f ((AF f l a)++[((17,0,0,0,0,0):AK)]) b))++[((16,0,0,0,0,0):AK)]) ((AF f l a).length) (((((AF f ((AF f l a)++[((17,0,0,0,0,0):AK)]) b))++[((16,0,0,0,0,0):AK)]).length:Int)))++[(AZ 0)]).getD ((AF f ((AF f l a)++[((17,0,0,0,0,0):AK)]) b)).length default):=getD_some default (by ((try simp only [maxLen,Dk,List.length_set,List.length_append,List.length_cons,List.length_nil,List.length_singleton]) <;> omega))
 refine BG Ai QQ a1 [] fun k3 u2=>?_
 refine BH (g:=w0) (off:=0) (cap:=y0) (sz:=6) (k:=(((AF f ((AF f l a)++[((17,0,0,0,0,0):AK)]) b)).length)) (len:=((Aq (((AF f ((AF f l a)++[((17,0,0,0,0,0):AK)]) b))++[((16,0,0,0,0,0):AK)]) ((AF f l a).length) (((((AF f ((AF f l a)++[((17,0,0,0,0,0):AK)]) b))++[((16,0,0,0,0,0):AK)]).length:Int)))++[(AZ 0)]).length) (some 76) (by ((try simp only [maxLen,Dk,List.length_set,List.length_append,List.length_cons,List.length_nil,List.length_singleton]) <;> omega)) Tryz.underlying47 ?_
 refine BG IG Vj u2 [] fun i3 z0=>?_
 refine F9 z0.H (z0.ix 0) (z0.at 0 rfl) (((AF f ((AF f l a)++[((17,0,0,0,0,0):AK)]) b)).length) (((Aq (((AF f ((AF f l a)++[((17,0,0,0,0,0):AK)]) b))++[((16,0,0,0,0,0):AK)]) ((AF f l a).length) (((((AF f ((AF f l a)++[((17,0,0,0,0,0):AK)]) b))++[((16,0,0,0,0,0):AK)]).length:Int)))++[(AZ 0)]).getD (((AF f ((AF f l a)++[((17,0,0,0,0,0):AK)]) b)).length) default) k2 1 (by decide) (D ((((Aq (((AF f ((AF f l a)++[((17,0,0,0,0,0):AK)]) b))++[((16,0,0,0,0,0):AK)]) ((AF f l a).length) (((((AF f ((AF f l a)++[((17,0,0,0,0,0):AK)]) b))++[((16,0,0,0,0,0):AK)]).length:Int)))++[(AZ 0)]).length:Int))) (fun r h=>by rw [h]; rfl) (fun _ _ h=>by rw [h]; rfl) 3 none (by kernel_rfl) (by kernel_rfl) rfl rfl (fun g3 Hn m2 y3=>?_) (e':=((((Aq (((AF f ((AF f l a)++[((17,0,0,0,0,0):AK)]) b))++[((16,0,0,0,0,0):AK)]) ((AF f l a).length) (((((AF f ((AF f l a)++[((17,0,0,0,0,0):AK)]) b))++[((16,0,0,0,0,0):AK)]).length:Int)))++[(AZ 0)]).getD (((AF f ((AF f l a)++[((17,0,0,0,0,0):AK)]) b)).length) default).1,(((Aq (((AF f ((AF f l a)++[((17,0,0,0,0,0):AK)]) b))++[((16,0,0,0,0,0):AK)]) ((AF f l a).length) (((((AF f ((AF f l a)++[((17,0,0,0,0,0):AK)]) b))++[((16,0,0,0,0,0):AK)]).length:Int)))++[(AZ 0)]).length:Int),(((Aq (((AF f ((AF f l a)++[((17,0,0,0,0,0):AK)]) b))++[((16,0,0,0,0,0):AK)]) ((AF f l a).length) (((((AF f ((AF f l a)++[((17,0,0,0,0,0):AK)]) b))++[((16,0,0,0,0,0):AK)]).length:Int)))++[(AZ 0)]).getD (((AF f ((AF f l a)++[((17,0,0,0,0,0):AK)]) b)).length) default).2.2))
 have t2:=z0.put 0 (by simp) m2 Hn
 refine EQ [(1,.slice (some ⟨w0,0,none⟩) ((Aq ((Aq (((AF f ((AF f l a)++[((17,0,0,0,0,0):AK)]) b))++[((16,0,0,0,0,0):AK)]) ((AF f l a).length) (((((AF f ((AF f l a)++[((17,0,0,0,0,0):AK)]) b))++[((16,0,0,0,0,0):AK)]).length:Int)))++[(AZ 0)]) (((AF f ((AF f l a)++[((17,0,0,0,0,0):AK)]) b)).length) ((((Aq (((AF f ((AF f l a)++[((17,0,0,0,0,0):AK)]) b))++[((16,0,0,0,0,0):AK)]) ((AF f l a).length) (((((AF f ((AF f l a)++[((17,0,0,0,0,0):AK)]) b))++[((16,0,0,0,0,0):AK)]).length:Int)))++[(AZ 0)]).length:Int))).length) y0),(6,.slice none 0 0)] (by simp only [Dk]; kernel_rfl) fun a4=>?_
 refine AC mN t2 [] fun f3 g1=>?_
 have hS:(IY f l a b)=Aq ((Aq (((AF f ((AF f l a)++[((17,0,0,0,0,0):AK)]) b))++[((16,0,0,0,0,0):AK)]) ((AF f l a).length) (((((AF f ((AF f l a)++[((17,0,0,0,0,0):AK)]) b))++[((16,0,0,0,0,0):AK)]).length:Int)))++[(AZ 0)]) (((AF f ((AF f l a)++[((17,0,0,0,0,0):AK)]) b)).length) ((((Aq (((AF f ((AF f l a)++[((17,0,0,0,0,0):AK)]) b))++[((16,0,0,0,0,0):AK)]) ((AF f l a).length) (((((AF f ((AF f l a)++[((17,0,0,0,0,0):AK)]) b))++[((16,0,0,0,0,0):AK)]).length:Int)))++[(AZ 0)]).length:Int)):=by unfold IY; rfl
 exact Ab g1 (0,0) (.slice (some ⟨w0,0,none⟩) ((Aq ((Aq (((AF f ((AF f l a)++[((17,0,0,0,0,0):AK)]) b))++[((16,0,0,0,0,0):AK)]) ((AF f l a).length) (((((AF f ((AF f l a)++[((17,0,0,0,0,0):AK)]) b))++[((16,0,0,0,0,0):AK)]).length:Int)))++[(AZ 0)]) (((AF f ((AF f l a)++[((17,0,0,0,0,0):AK)]) b)).length) ((((Aq (((AF f ((AF f l a)++[((17,0,0,0,0,0):AK)]) b))++[((16,0,0,0,0,0):AK)]) ((AF f l a).length) (((((AF f ((AF f l a)++[((17,0,0,0,0,0):AK)]) b))++[((16,0,0,0,0,0):AK)]).length:Int)))++[(AZ 0)]).length:Int))).length) y0) ⟨(some ⟨w0,0,none⟩),y0,by rw [hS] <;> rfl,g1.B,by rw [hS]; exact g1.own [0] rfl (by decide)⟩
def JC (f:Ex→Nat→List AK) (l:List AK) (k0:Ex) (k1:Ex):List AK:=Aq ((AF f (Aq ((((AF f l k0)++[((17,0,0,0,0,0):AK)])++[(AZ 1)])++[((16,0,0,0,0,0):AK)]) ((AF f l k0).length) ((((((AF f l k0)++[((17,0,0,0,0,0):AK)])++[(AZ 1)])++[((16,0,0,0,0,0):AK)]).length:Int))) k1)) ((((AF f l k0)++[((17,0,0,0,0,0):AK)])++[(AZ 1)]).length) ((((AF f (Aq ((((AF f l k0)++[((17,0,0,0,0,0):AK)])++[(AZ 1)])++[((16,0,0,0,0,0):AK)]) ((AF f l k0).length) ((((((AF f l k0)++[((17,0,0,0,0,0):AK)])++[(AZ 1)])++[((16,0,0,0,0,0):AK)]).length:Int))) k1)).length:Int))
noncomputable def V7:Code:=Tryz.f54.body.getD .skip
def SD:=Ad 1 ([.code V7])
def NG:Array Oper:=(C6 SD).getD #[]
def nF:Wr:=[(9,0),(10,1),(12,3),(13,4),(14,5)]
def Yp:=AB (BA Bb 90 (AP SD)) (AP SD)
def lZ:=AB 60 (AE Yp)
def Yo:=AB 60 (AG lZ)
def SC:=AB (BA Bb 90 (AE Yo)) (AE Yo)
def SB:=AB (BA Bb 90 (AE SC)) (AE SC)
def Yn:=AB (BA Ai 90 (AE SB)) (AE SB)
def lY:=AB (BA IG 90 (AE Yn)) (AE Yn)
def lX:=AB 60 (AE lY)
def lW:=AB 60 (AL lX)
def O5:=Ad 15 (AG lW)
def Lo:Array Oper:=(C6 O5).getD #[]
def mE:Wr:=[(65,0),(66,1),(68,3),(69,4),(70,5)]
def TT:=AB (BA Ai 90 (AP O5)) (AP O5)
def bB:=AB (BA IG 90 (AE TT)) (AE TT)
def qr:=AB 60 (AE bB)
theorem Uy (L:List Th) (f:Ex→Nat→List AK) (p0aaA:Option Addr) (p0aan p0aac:Nat) (p0abA:Option Addr) (p0abn p0abc:Nat) (p0acA:Option Addr) (p0acn p0acc:Nat) (p0adA:Option Addr) (p0adn p0adc bi:Nat) (mi:List (List UInt8×Int)) (bs:Nat) (ms:List (List UInt8×Int)) (bp:Nat) (mp:List (List UInt8×Int)) (br:Nat) (mr:List (List UInt8×Int)) (p:Option Addr) (l:List AK) (o:Nat) (x:Ex) (t:Option Addr) (a b:Ex) (j:Nat) (w q:World) (g2:AY.at BL bi mi w) (d2:AY.at BL bs ms w) (f2:AY.at BL bp mp w) (e2:AY.at BL br mr w) (r1:rowsEx w t [a,b]) (p1:∀ (L:List Th) (p:Option Addr) (l:List AK) (o:Nat) (x':Ex) (t:Option Addr) (j:Nat) (q:World),rowsEx w t x'.ks→C9 x'→l.length + 4 * nE x'≤400000000→Below w.heap.size w q→AU w.heap.size q ([Cj p o l]++L)→Calls Tryz.prog 22 ([.agg ⟨[.slice p0aaA p0aan p0aac,.slice p0abA p0abn p0abc,.slice p0acA p0acn p0acc,.slice p0adA p0adn p0adc,.map (some bi),.map (some bs),.map (some bp),.map (some br)]⟩,.slice p l.length o,.agg ⟨CW x' t j⟩]:List Value).toArray q fun e w'=>∃ (i0:Option Addr) (h0:Nat),e=.returned (.slice i0 (AF f l x').length h0)∧Below w.heap.size w w'∧AU w.heap.size w' ([Cj i0 h0 (AF f l x')]++L)) (y:∀ k∈[a,b],C9 k) (q1:∀ k n,C9 k→(f k n).length≤4 * nE k) (hb:l.length + 4 * (nE a + nE b) + 4≤400000000) (B:Below w.heap.size w q) (H:AU w.heap.size q ([(Cj p o l)]++L)):Calls Tryz.prog 54 ([.agg ⟨[.slice p0aaA p0aan p0aac,.slice p0abA p0abn p0abc,.slice p0acA p0acn p0acc,.slice p0adA p0adn p0adc,.map (some bi),.map (some bs),.map (some bp),.map (some br)]⟩,.slice p l.length o,.agg ⟨[D 13,D x.num,D x.den,D x.mu,D x.hu,D x.du,.string ⟨⟨x.nm⟩⟩,D x.cnt,D x.md,.slice t 2 j]⟩]:List Value).toArray q fun e w'=>∃ (i0:Option Addr) (h0:Nat),e=.returned (.slice i0 ((JC f l a b).length) h0)∧Below w.heap.size w w'∧AU w.heap.size w' ([Cj i0 h0 (JC f l a b)]++L):=by
 refine Af (fn:=Tryz.f54) (c:=V7) (n:=79) ?_
 have K1:Wk w q [] [(Cj p o l)] L:=⟨B,H⟩
 clear B H
 refine CR 1 SD [⟨q.heap.size,0,[.slice p0aaA p0aan p0aac,.slice p0abA p0abn p0abc,.slice p0acA p0acn p0acc,.slice p0adA p0adn p0adc,.map (some bi),.map (some bs),.map (some bp),.map (some br)],75,true⟩,⟨q.heap.size + 1,0,[D 13,D x.num,D x.den,D x.mu,D x.hu,D x.du,.string ⟨⟨x.nm⟩⟩,D x.cnt,D x.md,.slice t 2 j],32,true⟩] K1 [] fun w1 K2=>?_
 obtain ⟨gk,m,rfl,a1,p0⟩:=r1.all (by simp)
 obtain ⟨f0,e0,z0,t1⟩:=p0 0 a rfl
 refine C4 NG 8 ?_
 refine C5 (i:=2) (v:=.pointer (some ⟨q.heap.size + 1,9,none⟩)) (NG.getD 2 default) (fun _ _ _ h=>nomatch h.1) ?_
 let z4:List Value:=[D a.op,D a.num,D a.den,D a.mu,D a.hu,D a.du,.string ⟨⟨a.nm⟩⟩,D a.cnt,D a.md,.slice f0 a.ks.length e0]
 refine CG (md:=.any) (fuel:=2) (L:=[AN 0 [] (.agg ⟨[.slice p0aaA p0aan p0aac,.slice p0abA p0abn p0abc,.slice p0acA p0acn p0acc,.slice p0adA p0adn p0adc,.map (some bi),.map (some bs),.map (some bp),.map (some br)]⟩),AN 1 [] (.slice p l.length o),AN 3 [] (.slice (some ⟨gk,m,none⟩) 2 j),AN 4 [3] (.pointer (some ⟨gk,m + 0 * 10,none⟩)),AN 5 [3,4] (.agg ⟨z4⟩)]) (W:=nF) (C:=fun u=>Below w1.heap.size w1 u) (Ext:=Ck) (Below.refl _ _).drew Ck.refl (fun _ _ _=>Ck.trans) ⟨?_,?_,?_,?_,?_,trivial⟩ rfl ?_
 ·refine ⟨fun _ _ _ _ _ h=>h,fun d u hu hb=>?_⟩
  exact AH.knownE [] (by kernel_rfl) trivial (AH.reads ⟨0,_,(0,0),[]⟩ (Az K2.G hu) (.agg ⟨[.slice p0aaA p0aan p0aac,.slice p0abA p0abn p0abc,.slice p0acA p0acn p0acc,.slice p0adA p0adn p0adc,.map (some bi),.map (some bs),.map (some bp),.map (some br)]⟩) ⟨hu,.refl _,rfl⟩)
 ·refine ⟨fun _ _ _ _ _ h=>h,fun d u hu hb=>?_⟩
  exact AH.knownE [] (by kernel_rfl) trivial (AH.reads ⟨0,[],(0,0),[]⟩ (fun e he=>by cases he) (.slice p l.length o) ⟨hu,.refl _,rfl⟩)
 ·refine ⟨fun _ _ _ _ _ h=>h,fun d u hu hb=>?_⟩
  exact AH.knownE [] (by kernel_rfl) trivial (AH.reads ⟨0,_,(1,9),[]⟩ (Az K2.G hu) (.slice (some ⟨gk,m,none⟩) 2 j) ⟨hu,.refl _,rfl⟩)
 ·refine ⟨fun _ _ _ _ _ h=>h,fun d u hu hb=>?_⟩
  obtain ⟨h3,_⟩:=hb
  exact AH.knownE [(12,3,.slice (some ⟨gk,m,none⟩) 2 j)] (by kernel_rfl) ⟨(List.cons.inj h3).1,trivial⟩ (AH.value (h:=(Bd (sz:=10) (cap:=j) 30 (.tmp 12) (.const (D 0)) rfl rfl (by decide) Tryz.underlying30)) ⟨hu,.refl _,rfl⟩)
 ·refine ⟨fun _ _ _ _ _ h=>h,fun d u hu hb=>?_⟩
  obtain ⟨h3,h4,_⟩:=hb
  exact AH.knownE [(13,4,.pointer (some ⟨gk,m + 0 * 10,none⟩))] (by kernel_rfl) ⟨(List.cons.inj h4).1,trivial⟩ (AH.reads ⟨0,[⟨gk,m + 0 * 10,z4,32,false⟩],(0,0),[]⟩ (fun e he=>by rw [List.mem_singleton.1 he]; exact ⟨Nat.lt_of_lt_of_le a1 (K2.B.trans (hu.mono K2.B.size)).size,Ac z0 a1 (K2.B.trans (hu.mono K2.B.size))⟩) (.agg ⟨z4⟩) ⟨hu,.refl _,rfl⟩)
 intro d w2 b2 _ q0
 replace b2:Below w1.heap.size w1 w2:=b2
 obtain ⟨x0,x1,x3,x4,x5,_⟩:=q0
 have K3:=K2.below b2
 refine DN [(1,.slice p l.length o),(3,.pointer (some ⟨q.heap.size,0,none⟩)),(5,.pointer (some ⟨q.heap.size + 1,0,none⟩)),(6,.slice none 0 0),(9,d 0),(10,d 1),(14,d 5)] fun E2=>?_
 rw [show d 0=.agg ⟨[.slice p0aaA p0aan p0aac,.slice p0abA p0abn p0abc,.slice p0acA p0acn p0acc,.slice p0adA p0adn p0adc,.map (some bi),.map (some bs),.map (some bp),.map (some br)]⟩ from (List.cons.inj x0).1]
 rw [show d 1=.slice p l.length o from (List.cons.inj x1).1]
 rw [show d 5=.agg ⟨z4⟩ from (List.cons.inj x5).1]
 have Kf:=(K3.pickL (L':=[(Cj p o l)]++[]) [0] rfl (by decide)).front
 refine Gh (i:=6) (ats:=#[75,47,32]) (NG.getD 6 default) 22 [.tmp 9,.tmp 10,.tmp 14] [.agg ⟨[.slice p0aaA p0aan p0aac,.slice p0abA p0abn p0abc,.slice p0acA p0acn p0acc,.slice p0adA p0adn p0adc,.map (some bi),.map (some bs),.map (some bp),.map (some br)]⟩,.slice p l.length o,.agg ⟨z4⟩] ((p1 _ p l o a f0 e0 w2 t1 (y _ (by simp)) (by ((try simp only [maxLen,Dk,List.length_set,List.length_append,List.length_cons,List.length_nil,List.length_singleton]) <;> omega)) K3.B Kf).mono fun en w4 hh=>?_)
 obtain ⟨z1,v1,rfl,b4,Hn⟩:=hh
 refine ⟨_,rfl,?_⟩
 have K4:=Wk.unfront b4 Hn
 have c2:=HZ q1 l (k:=a) (y _ (by simp))
 try simp only [Dk,List.length_append,List.length_cons,List.length_nil,List.length_singleton] at c2
 refine EB (i:=7) K4 (NG.getD 7 default) (0,0) (.slice z1 ((AF f l a).length) v1) fun w5 K5=>?_
 refine Cy ⟨rfl,At.mid ?_⟩
 let z6:List Value:=[D 13,D x.num,D x.den,D x.mu,D x.hu,D x.du,.string ⟨⟨x.nm⟩⟩,D x.cnt,D x.md,.slice (some ⟨gk,m,none⟩) 2 j]
 let z8:List Value:=[D 17,D 0,D 0,D 0,D 0,D 0]
 refine Cb Bb Yp [⟨q.heap.size,0,[.slice p0aaA p0aan p0aac,.slice p0abA p0abn p0abc,.slice p0acA p0acn p0acc,.slice p0adA p0adn p0adc,.map (some bi),.map (some bs),.map (some bp),.map (some br)],75,true⟩,⟨q.heap.size + 1,0,z6,32,true⟩,⟨w5.heap.size,0,z8,53,true⟩] K5 [] fun w6 K6=>?_
 refine Ch K6.H (K6.ix 0) (K6.at 0 rfl) (((17,0,0,0,0,0):AK)) z8 rfl (w5.heap.size) (K6.ent 2 (by kernel_rfl)) (DM Yp) (by kernel_rfl) (.tmp 18) (.tmp 20) 47 (by kernel_rfl) (by kernel_rfl) (by kernel_rfl) (by decide) (by kernel_rfl) (by kernel_rfl) rfl rfl (by ((try simp only [maxLen,Dk,List.length_set,List.length_append,List.length_cons,List.length_nil,List.length_singleton]) <;> omega)) fun A7 c7 w7 Hn b7=>?_
 have K7:=K6.put 0 (by simp) b7 Hn
 refine AC lZ K7 [(1,0)] fun w8 K8=>?_
 refine AM true (fun _=>?_) (fun h=>nomatch h)
 refine AC Yo K8 [] fun w9 K9=>?_
 refine Ap K9 (N9 1 w9) fun w0 a3=>?_
 let z7:List Value:=[D ((AZ 1).1),D ((AZ 1).2.1),D ((AZ 1).2.2.1),D ((AZ 1).2.2.2.1),D ((AZ 1).2.2.2.2.1),D ((AZ 1).2.2.2.2.2)]
 refine Cb Bb SC [⟨q.heap.size,0,[.slice p0aaA p0aan p0aac,.slice p0abA p0abn p0abc,.slice p0acA p0acn p0acc,.slice p0adA p0adn p0adc,.map (some bi),.map (some bs),.map (some bp),.map (some br)],75,true⟩,⟨q.heap.size + 1,0,z6,32,true⟩,⟨w5.heap.size,0,z8,53,true⟩,⟨w0.heap.size,0,z7,53,true⟩] a3 [] fun v3 t0=>?_
 refine Ch t0.H (t0.ix 0) (t0.at 0 rfl) (AZ 1) z7 rfl (w0.heap.size) (t0.ent 3 (by kernel_rfl)) (DM SC) (by kernel_rfl) (.tmp 25) (.tmp 27) 47 (by kernel_rfl) (by kernel_rfl) (by kernel_rfl) (by decide) (by kernel_rfl) (by kernel_rfl) rfl rfl (by ((try simp only [maxLen,Dk,List.length_set,List.length_append,List.length_cons,List.length_nil,List.length_singleton]) <;> omega)) fun g4 w3 g1 Hn q2=>?_
 have z2:=t0.put 0 (by simp) q2 Hn
 refine Cb Bb SB [⟨q.heap.size,0,[.slice p0aaA p0aan p0aac,.slice p0abA p0abn p0abc,.slice p0acA p0acn p0acc,.slice p0adA p0adn p0adc,.map (some bi),.map (some bs),.map (some bp),.map (some br)],75,true⟩,⟨q.heap.size + 1,0,z6,32,true⟩,⟨w5.heap.size,0,z8,53,true⟩,⟨w0.heap.size,0,z7,53,true⟩,⟨g1.heap.size,0,[D 16,D 0,D 0,D 0,D 0,D 0],53,true⟩] z2 [] fun u3 r0=>?_
 refine Ch r0.H (r0.ix 0) (r0.at 0 rfl) (((16,0,0,0,0,0):AK)) [D 16,D 0,D 0,D 0,D 0,D 0] rfl (g1.heap.size) (r0.ent 4 (by kernel_rfl)) (DM SB) (by kernel_rfl) (.tmp 38) (.tmp 40) 47 (by kernel_rfl) (by kernel_rfl) (by kernel_rfl) (by decide) (by kernel_rfl) (by kernel_rfl) rfl rfl (by ((try simp only [maxLen,Dk,List.length_set,List.length_append,List.length_cons,List.length_nil,List.length_singleton]) <;> omega)) fun f4 a0 t3 Hn p2=>?_
 have f1:=r0.put 0 (by simp) p2 Hn
 obtain ⟨z,rfl,c3⟩:=f1.H.rowAt (f1.ix 0) (f1.at 0 rfl) (by ((try simp only [maxLen,Dk,List.length_set,List.length_append,List.length_cons,List.length_nil,List.length_singleton]) <;> omega))
 have i2:((((AF f l a)++[((17,0,0,0,0,0):AK)])++[(AZ 1)])++[((16,0,0,0,0,0):AK)])[(AF f l a).length]?=some (((((AF f l a)++[((17,0,0,0,0,0):AK)])++[(AZ 1)])++[((16,0,0,0,0,0):AK)]).getD (AF f l a).length default):=getD_some default (by ((try simp only [maxLen,Dk,List.length_set,List.length_append,List.length_cons,List.length_nil,List.length_singleton]) <;> omega))
 refine BG Ai Yn f1 [] fun s3 y2=>?_
 refine BH (g:=z) (off:=0) (cap:=a0) (sz:=6) (k:=((AF f l a).length)) (len:=((((AF f l a)++[((17,0,0,0,0,0):AK)])++[(AZ 1)])++[((16,0,0,0,0,0):AK)]).length) (some 46) (by ((try simp only [maxLen,Dk,List.length_set,List.length_append,List.length_cons,List.length_nil,List.length_singleton]) <;> omega)) Tryz.underlying47 ?_
 refine BG IG lY y2 [] fun r3 e1=>?_
 refine F9 e1.H (e1.ix 0) (e1.at 0 rfl) ((AF f l a).length) (((((AF f l a)++[((17,0,0,0,0,0):AK)])++[(AZ 1)])++[((16,0,0,0,0,0):AK)]).getD ((AF f l a).length) default) i2 1 (by decide) (D ((((((AF f l a)++[((17,0,0,0,0,0):AK)])++[(AZ 1)])++[((16,0,0,0,0,0):AK)]).length:Int))) (fun r h=>by rw [h]; rfl) (fun _ _ h=>by rw [h]; rfl) 3 none (by kernel_rfl) (by kernel_rfl) rfl rfl (fun q3 Hn m2 z3=>?_) (e':=((((((AF f l a)++[((17,0,0,0,0,0):AK)])++[(AZ 1)])++[((16,0,0,0,0,0):AK)]).getD ((AF f l a).length) default).1,(((((AF f l a)++[((17,0,0,0,0,0):AK)])++[(AZ 1)])++[((16,0,0,0,0,0):AK)]).length:Int),(((((AF f l a)++[((17,0,0,0,0,0):AK)])++[(AZ 1)])++[((16,0,0,0,0,0):AK)]).getD ((AF f l a).length) default).2.2))
 have x2:=e1.put 0 (by simp) m2 Hn
 refine EQ [(1,.slice (some ⟨z,0,none⟩) ((Aq ((((AF f l a)++[((17,0,0,0,0,0):AK)])++[(AZ 1)])++[((16,0,0,0,0,0):AK)]) ((AF f l a).length) ((((((AF f l a)++[((17,0,0,0,0,0):AK)])++[(AZ 1)])++[((16,0,0,0,0,0):AK)]).length:Int))).length) a0),(3,.pointer (some ⟨q.heap.size,0,none⟩)),(5,.pointer (some ⟨q.heap.size + 1,0,none⟩)),(6,.slice none 0 0),(8,D (((((AF f l a)++[((17,0,0,0,0,0):AK)])++[(AZ 1)]).length:Int)))] (by simp only [Dk]; kernel_rfl) fun e4=>?_
 refine AC lX x2 [(1,0)] fun m3 v2=>?_
 refine AM false (fun h=>nomatch h) (fun _=>?_)
 refine AC lW v2 [] fun l3 u2=>?_
 refine AM true (fun _=>?_) (fun h=>nomatch h)
 refine Al 15 O5 u2 [] fun v0 b0=>?_
 obtain ⟨d0,c0,y0,s1⟩:=p0 1 b rfl
 refine C4 Lo 8 ?_
 refine C5 (i:=2) (v:=.pointer (some ⟨q.heap.size + 1,9,none⟩)) (Lo.getD 2 default) (fun _ _ _ h=>nomatch h.1) ?_
 let z5:List Value:=[D b.op,D b.num,D b.den,D b.mu,D b.hu,D b.du,.string ⟨⟨b.nm⟩⟩,D b.cnt,D b.md,.slice d0 b.ks.length c0]
 refine CG (md:=.any) (fuel:=2) (L:=[AN 0 [] (.agg ⟨[.slice p0aaA p0aan p0aac,.slice p0abA p0abn p0abc,.slice p0acA p0acn p0acc,.slice p0adA p0adn p0adc,.map (some bi),.map (some bs),.map (some bp),.map (some br)]⟩),AN 1 [] (.slice (some ⟨z,0,none⟩) ((Aq ((((AF f l a)++[((17,0,0,0,0,0):AK)])++[(AZ 1)])++[((16,0,0,0,0,0):AK)]) ((AF f l a).length) ((((((AF f l a)++[((17,0,0,0,0,0):AK)])++[(AZ 1)])++[((16,0,0,0,0,0):AK)]).length:Int))).length) a0),AN 3 [] (.slice (some ⟨gk,m,none⟩) 2 j),AN 4 [3] (.pointer (some ⟨gk,m + 1 * 10,none⟩)),AN 5 [3,4] (.agg ⟨z5⟩)]) (W:=mE) (C:=fun u=>Below v0.heap.size v0 u) (Ext:=Ck) (Below.refl _ _).drew Ck.refl (fun _ _ _=>Ck.trans) ⟨?_,?_,?_,?_,?_,trivial⟩ rfl ?_
 ·refine ⟨fun _ _ _ _ _ h=>h,fun d u hu hb=>?_⟩
  exact AH.knownE [] (by kernel_rfl) trivial (AH.reads ⟨0,_,(0,0),[]⟩ (Az b0.G hu) (.agg ⟨[.slice p0aaA p0aan p0aac,.slice p0abA p0abn p0abc,.slice p0acA p0acn p0acc,.slice p0adA p0adn p0adc,.map (some bi),.map (some bs),.map (some bp),.map (some br)]⟩) ⟨hu,.refl _,rfl⟩)
 ·refine ⟨fun _ _ _ _ _ h=>h,fun d u hu hb=>?_⟩
  exact AH.knownE [] (by kernel_rfl) trivial (AH.reads ⟨0,[],(0,0),[]⟩ (fun e he=>by cases he) (.slice (some ⟨z,0,none⟩) ((Aq ((((AF f l a)++[((17,0,0,0,0,0):AK)])++[(AZ 1)])++[((16,0,0,0,0,0):AK)]) ((AF f l a).length) ((((((AF f l a)++[((17,0,0,0,0,0):AK)])++[(AZ 1)])++[((16,0,0,0,0,0):AK)]).length:Int))).length) a0) ⟨hu,.refl _,rfl⟩)
 ·refine ⟨fun _ _ _ _ _ h=>h,fun d u hu hb=>?_⟩
  exact AH.knownE [] (by kernel_rfl) trivial (AH.reads ⟨0,_,(1,9),[]⟩ (Az b0.G hu) (.slice (some ⟨gk,m,none⟩) 2 j) ⟨hu,.refl _,rfl⟩)
 ·refine ⟨fun _ _ _ _ _ h=>h,fun d u hu hb=>?_⟩
  obtain ⟨h3,_⟩:=hb
  exact AH.knownE [(68,3,.slice (some ⟨gk,m,none⟩) 2 j)] (by kernel_rfl) ⟨(List.cons.inj h3).1,trivial⟩ (AH.value (h:=(Bd (sz:=10) (cap:=j) 30 (.tmp 68) (.const (D 1)) rfl rfl (by decide) Tryz.underlying30)) ⟨hu,.refl _,rfl⟩)
 ·refine ⟨fun _ _ _ _ _ h=>h,fun d u hu hb=>?_⟩
  obtain ⟨h3,h4,_⟩:=hb
  exact AH.knownE [(69,4,.pointer (some ⟨gk,m + 1 * 10,none⟩))] (by kernel_rfl) ⟨(List.cons.inj h4).1,trivial⟩ (AH.reads ⟨0,[⟨gk,m + 1 * 10,z5,32,false⟩],(0,0),[]⟩ (fun e he=>by rw [List.mem_singleton.1 he]; exact ⟨Nat.lt_of_lt_of_le a1 (b0.B.trans (hu.mono b0.B.size)).size,Ac y0 a1 (b0.B.trans (hu.mono b0.B.size))⟩) (.agg ⟨z5⟩) ⟨hu,.refl _,rfl⟩)
 intro d n1 h1 _ q0
 replace h1:Below v0.heap.size v0 n1:=h1
 obtain ⟨x0,x1,x3,x4,x5,_⟩:=q0
 have y1:=b0.below h1
 refine DN [(1,.slice (some ⟨z,0,none⟩) ((Aq ((((AF f l a)++[((17,0,0,0,0,0):AK)])++[(AZ 1)])++[((16,0,0,0,0,0):AK)]) ((AF f l a).length) ((((((AF f l a)++[((17,0,0,0,0,0):AK)])++[(AZ 1)])++[((16,0,0,0,0,0):AK)]).length:Int))).length) a0),(6,.slice none 0 0),(8,D (((((AF f l a)++[((17,0,0,0,0,0):AK)])++[(AZ 1)]).length:Int))),(65,d 0),(66,d 1),(70,d 5)] fun c4=>?_
 rw [show d 0=.agg ⟨[.slice p0aaA p0aan p0aac,.slice p0abA p0abn p0abc,.slice p0acA p0acn p0acc,.slice p0adA p0adn p0adc,.map (some bi),.map (some bs),.map (some bp),.map (some br)]⟩ from (List.cons.inj x0).1]
 rw [show d 1=.slice (some ⟨z,0,none⟩) ((Aq ((((AF f l a)++[((17,0,0,0,0,0):AK)])++[(AZ 1)])++[((16,0,0,0,0,0):AK)]) ((AF f l a).length) ((((((AF f l a)++[((17,0,0,0,0,0):AK)])++[(AZ 1)])++[((16,0,0,0,0,0):AK)]).length:Int))).length) a0 from (List.cons.inj x1).1]
 rw [show d 5=.agg ⟨z5⟩ from (List.cons.inj x5).1]
 have Kf:=(y1.pickL (L':=[(Cj (some ⟨z,0,none⟩) a0 (Aq ((((AF f l a)++[((17,0,0,0,0,0):AK)])++[(AZ 1)])++[((16,0,0,0,0,0):AK)]) ((AF f l a).length) ((((((AF f l a)++[((17,0,0,0,0,0):AK)])++[(AZ 1)])++[((16,0,0,0,0,0):AK)]).length:Int))))]++[]) [0] rfl (by decide)).front
 refine Gh (i:=6) (ats:=#[75,47,32]) (Lo.getD 6 default) 22 [.tmp 65,.tmp 66,.tmp 70] [.agg ⟨[.slice p0aaA p0aan p0aac,.slice p0abA p0abn p0abc,.slice p0acA p0acn p0acc,.slice p0adA p0adn p0adc,.map (some bi),.map (some bs),.map (some bp),.map (some br)]⟩,.slice (some ⟨z,0,none⟩) ((Aq ((((AF f l a)++[((17,0,0,0,0,0):AK)])++[(AZ 1)])++[((16,0,0,0,0,0):AK)]) ((AF f l a).length) ((((((AF f l a)++[((17,0,0,0,0,0):AK)])++[(AZ 1)])++[((16,0,0,0,0,0):AK)]).length:Int))).length) a0,.agg ⟨z5⟩] ((p1 _ (some ⟨z,0,none⟩) (Aq ((((AF f l a)++[((17,0,0,0,0,0):AK)])++[(AZ 1)])++[((16,0,0,0,0,0):AK)]) ((AF f l a).length) ((((((AF f l a)++[((17,0,0,0,0,0):AK)])++[(AZ 1)])++[((16,0,0,0,0,0):AK)]).length:Int))) a0 b d0 c0 n1 s1 (y _ (by simp)) (by ((try simp only [maxLen,Dk,List.length_set,List.length_append,List.length_cons,List.length_nil,List.length_singleton]) <;> omega)) y1.B Kf).mono fun en k3 hh=>?_)
 obtain ⟨m1,s,rfl,l2,Hn⟩:=hh
 refine ⟨_,rfl,?_⟩
 have t2:=Wk.unfront l2 Hn
 have a2:=HZ q1 (Aq ((((AF f l a)++[((17,0,0,0,0,0):AK)])++[(AZ 1)])++[((16,0,0,0,0,0):AK)]) ((AF f l a).length) ((((((AF f l a)++[((17,0,0,0,0,0):AK)])++[(AZ 1)])++[((16,0,0,0,0,0):AK)]).length:Int))) (k:=b) (y _ (by simp))
 try simp only [Dk,List.length_append,List.length_cons,List.length_nil,List.length_singleton] at a2
 refine L4 (i:=7) t2 (Lo.getD 7 default) [⟨q.heap.size,0,[.slice p0aaA p0aan p0aac,.slice p0abA p0abn p0abc,.slice p0acA p0acn p0acc,.slice p0adA p0adn p0adc,.map (some bi),.map (some bs),.map (some bp),.map (some br)],75,true⟩,⟨q.heap.size + 1,0,z6,32,true⟩,⟨w5.heap.size,0,z8,53,true⟩,⟨w0.heap.size,0,z7,53,true⟩,⟨g1.heap.size,0,[D 16,D 0,D 0,D 0,D 0,D 0],53,true⟩] (0,0) (.slice m1 (((AF f (Aq ((((AF f l a)++[((17,0,0,0,0,0):AK)])++[(AZ 1)])++[((16,0,0,0,0,0):AK)]) ((AF f l a).length) ((((((AF f l a)++[((17,0,0,0,0,0):AK)])++[(AZ 1)])++[((16,0,0,0,0,0):AK)]).length:Int))) b)).length) s) fun i3 d1=>?_
 refine Cy ⟨rfl,At.mid ?_⟩
 obtain ⟨b1,rfl,b3⟩:=d1.H.rowAt (d1.ix 0) (d1.at 0 rfl) (by ((try simp only [maxLen,Dk,List.length_set,List.length_append,List.length_cons,List.length_nil,List.length_singleton]) <;> omega))
 have h2:((AF f (Aq ((((AF f l a)++[((17,0,0,0,0,0):AK)])++[(AZ 1)])++[((16,0,0,0,0,0):AK)]) ((AF f l a).length) ((((((AF f l a)++[((17,0,0,0,0,0):AK)])++[(AZ 1)])++[((16,0,0,0,0,0):AK)]).length:Int))) b))[(((AF f l a)++[((17,0,0,0,0,0):AK)])++[(AZ 1)]).length]?=some (((AF f (Aq ((((AF f l a)++[((17,0,0,0,0,0):AK)])++[(AZ 1)])++[((16,0,0,0,0,0):AK)]) ((AF f l a).length) ((((((AF f l a)++[((17,0,0,0,0,0):AK)])++[(AZ 1)])++[((16,0,0,0,0,0):AK)]).length:Int))) b)).getD (((AF f l a)++[((17,0,0,0,0,0):AK)])++[(AZ 1)]).length default):=getD_some default (by ((try simp only [maxLen,Dk,List.length_set,List.length_append,List.length_cons,List.length_nil,List.length_singleton]) <;> omega))
 refine BG Ai TT d1 [] fun g3 s2=>?_
 refine BH (g:=b1) (off:=0) (cap:=s) (sz:=6) (k:=((((AF f l a)++[((17,0,0,0,0,0):AK)])++[(AZ 1)]).length)) (len:=((AF f (Aq ((((AF f l a)++[((17,0,0,0,0,0):AK)])++[(AZ 1)])++[((16,0,0,0,0,0):AK)]) ((AF f l a).length) ((((((AF f l a)++[((17,0,0,0,0,0):AK)])++[(AZ 1)])++[((16,0,0,0,0,0):AK)]).length:Int))) b)).length) (some 76) (by ((try simp only [maxLen,Dk,List.length_set,List.length_append,List.length_cons,List.length_nil,List.length_singleton]) <;> omega)) Tryz.underlying47 ?_
 refine BG IG bB s2 [] fun f3 c1=>?_
 refine F9 c1.H (c1.ix 0) (c1.at 0 rfl) ((((AF f l a)++[((17,0,0,0,0,0):AK)])++[(AZ 1)]).length) (((AF f (Aq ((((AF f l a)++[((17,0,0,0,0,0):AK)])++[(AZ 1)])++[((16,0,0,0,0,0):AK)]) ((AF f l a).length) ((((((AF f l a)++[((17,0,0,0,0,0):AK)])++[(AZ 1)])++[((16,0,0,0,0,0):AK)]).length:Int))) b)).getD ((((AF f l a)++[((17,0,0,0,0,0):AK)])++[(AZ 1)]).length) default) h2 1 (by decide) (D ((((AF f (Aq ((((AF f l a)++[((17,0,0,0,0,0):AK)])++[(AZ 1)])++[((16,0,0,0,0,0):AK)]) ((AF f l a).length) ((((((AF f l a)++[((17,0,0,0,0,0):AK)])++[(AZ 1)])++[((16,0,0,0,0,0):AK)]).length:Int))) b)).length:Int))) (fun r h=>by rw [h]; rfl) (fun _ _ h=>by rw [h]; rfl) 3 none (by kernel_rfl) (by kernel_rfl) rfl rfl (fun e3 Hn k2 y3=>?_) (e':=((((AF f (Aq ((((AF f l a)++[((17,0,0,0,0,0):AK)])++[(AZ 1)])++[((16,0,0,0,0,0):AK)]) ((AF f l a).length) ((((((AF f l a)++[((17,0,0,0,0,0):AK)])++[(AZ 1)])++[((16,0,0,0,0,0):AK)]).length:Int))) b)).getD ((((AF f l a)++[((17,0,0,0,0,0):AK)])++[(AZ 1)]).length) default).1,(((AF f (Aq ((((AF f l a)++[((17,0,0,0,0,0):AK)])++[(AZ 1)])++[((16,0,0,0,0,0):AK)]) ((AF f l a).length) ((((((AF f l a)++[((17,0,0,0,0,0):AK)])++[(AZ 1)])++[((16,0,0,0,0,0):AK)]).length:Int))) b)).length:Int),(((AF f (Aq ((((AF f l a)++[((17,0,0,0,0,0):AK)])++[(AZ 1)])++[((16,0,0,0,0,0):AK)]) ((AF f l a).length) ((((((AF f l a)++[((17,0,0,0,0,0):AK)])++[(AZ 1)])++[((16,0,0,0,0,0):AK)]).length:Int))) b)).getD ((((AF f l a)++[((17,0,0,0,0,0):AK)])++[(AZ 1)]).length) default).2.2))
 have r2:=c1.put 0 (by simp) k2 Hn
 refine EQ [(1,.slice (some ⟨b1,0,none⟩) ((Aq ((AF f (Aq ((((AF f l a)++[((17,0,0,0,0,0):AK)])++[(AZ 1)])++[((16,0,0,0,0,0):AK)]) ((AF f l a).length) ((((((AF f l a)++[((17,0,0,0,0,0):AK)])++[(AZ 1)])++[((16,0,0,0,0,0):AK)]).length:Int))) b)) ((((AF f l a)++[((17,0,0,0,0,0):AK)])++[(AZ 1)]).length) ((((AF f (Aq ((((AF f l a)++[((17,0,0,0,0,0):AK)])++[(AZ 1)])++[((16,0,0,0,0,0):AK)]) ((AF f l a).length) ((((((AF f l a)++[((17,0,0,0,0,0):AK)])++[(AZ 1)])++[((16,0,0,0,0,0):AK)]).length:Int))) b)).length:Int))).length) s),(6,.slice none 0 0)] (by simp only [Dk]; kernel_rfl) fun a4=>?_
 refine AC qr r2 [] fun d3 i1=>?_
 have hS:(JC f l a b)=Aq ((AF f (Aq ((((AF f l a)++[((17,0,0,0,0,0):AK)])++[(AZ 1)])++[((16,0,0,0,0,0):AK)]) ((AF f l a).length) ((((((AF f l a)++[((17,0,0,0,0,0):AK)])++[(AZ 1)])++[((16,0,0,0,0,0):AK)]).length:Int))) b)) ((((AF f l a)++[((17,0,0,0,0,0):AK)])++[(AZ 1)]).length) ((((AF f (Aq ((((AF f l a)++[((17,0,0,0,0,0):AK)])++[(AZ 1)])++[((16,0,0,0,0,0):AK)]) ((AF f l a).length) ((((((AF f l a)++[((17,0,0,0,0,0):AK)])++[(AZ 1)])++[((16,0,0,0,0,0):AK)]).length:Int))) b)).length:Int)):=by unfold JC; rfl
 exact Ab i1 (0,0) (.slice (some ⟨b1,0,none⟩) ((Aq ((AF f (Aq ((((AF f l a)++[((17,0,0,0,0,0):AK)])++[(AZ 1)])++[((16,0,0,0,0,0):AK)]) ((AF f l a).length) ((((((AF f l a)++[((17,0,0,0,0,0):AK)])++[(AZ 1)])++[((16,0,0,0,0,0):AK)]).length:Int))) b)) ((((AF f l a)++[((17,0,0,0,0,0):AK)])++[(AZ 1)]).length) ((((AF f (Aq ((((AF f l a)++[((17,0,0,0,0,0):AK)])++[(AZ 1)])++[((16,0,0,0,0,0):AK)]) ((AF f l a).length) ((((((AF f l a)++[((17,0,0,0,0,0):AK)])++[(AZ 1)])++[((16,0,0,0,0,0):AK)]).length:Int))) b)).length:Int))).length) s) ⟨(some ⟨b1,0,none⟩),s,by rw [hS] <;> rfl,i1.B,by rw [hS]; exact i1.own [0] rfl (by decide)⟩
end
end
end Go.Proofs.YtmcpjkcggfmcmaaGreatDoor

/-
  Part 31 of a proof: contracts of functions.
-/
import Derived.Test.YtmcpjkcggfmcmaaGreatDoorL30
set_option linter.all false
namespace Go.Proofs.YtmcpjkcggfmcmaaGreatDoor
open Go.RowKit
set_option maxRecDepth 100000
set_option maxHeartbeats 600000
theorem EG (A B:List AJ) {n:Nat} (h:n < A.length) (v:Int):Al (A++B) n v=Al A n v++B:=by
 unfold Al
 rw [List.getD_eq_getElem?_getD,List.getD_eq_getElem?_getD,List.getElem?_append_left h,List.set_append,if_pos h]
theorem FP (A:List AJ) (a:AJ) {n:Nat} (h:n=A.length) (v:Int):Al (A++[a]) n v=A++[(a.1,v,a.2.2)]:=by
 subst h
 unfold Al
 simp [List.getD_eq_getElem?_getD]
section
variable (f:Ex→Nat→List AJ) (l:List AJ) (x k0 k1 k2:Ex)
theorem Rx (hop:x.op=18) (hks:x.ks=[k0,k1,k2]):Gs f l k0 k1 k2=AE (Cb f) l x:=by
 unfold Gs AE Cb
 rw [hks,hop]
 generalize hu:((17,0,0,0,0,0):AJ)=u
 generalize hj:((16,0,0,0,0,0):AJ)=j
 generalize hc0:f k0 l.length=c0
 have e1:(l++c0++[u]).length=l.length + c0.length + 1:=by simp <;> omega
 rw [e1]
 show _=l++(f k0 l.length++[((17,((l.length + (f k0 l.length).length + 1 + (f k1 (l.length + (f k0 l.length).length + 1)).length + 1:Nat):Int),0,0,0,0):AJ)]++f k1 (l.length + (f k0 l.length).length + 1)++[((16,((l.length + (f k0 l.length).length + 1 + (f k1 (l.length + (f k0 l.length).length + 1)).length + 1 + (f k2 (l.length + (f k0 l.length).length + 1 + (f k1 (l.length + (f k0 l.length).length + 1)).length + 1)).length:Nat):Int),0,0,0,0):AJ)]++f k2 (l.length + (f k0 l.length).length + 1 + (f k1 (l.length + (f k0 l.length).length + 1)).length + 1))
 rw [hc0]
 generalize hc1:f k1 (l.length + c0.length + 1)=c1
 have e2:(l++c0++[u]++c1++[j]).length=l.length + c0.length + 1 + c1.length + 1:=by simp <;> omega
 rw [e2,EG (l++c0++[u]++c1) [j] (by simp <;> omega),EG (l++c0++[u]) c1 (by simp <;> omega),FP (l++c0) u rfl]
 have e3:(l++c0++[(u.1,((l.length + c0.length + 1 + c1.length + 1:Nat):Int),u.2.2)]++c1++[j]).length=l.length + c0.length + 1 + c1.length + 1:=by simp <;> omega
 rw [e3]
 generalize hc2:f k2 (l.length + c0.length + 1 + c1.length + 1)=c2
 rw [EG _ c2 (by simp <;> omega),FP _ j (by simp)]
 subst hu hj
 have e4:(l++c0++[(((17:Int),((l.length + c0.length + 1 + c1.length + 1:Nat):Int),(0:Int),(0:Int),(0:Int),(0:Int)):AJ)]++c1++[((16,0,0,0,0,0):AJ)]++c2).length=l.length + c0.length + 1 + c1.length + 1 + c2.length:=by simp <;> omega
 rw [e4]
 simp [List.append_assoc]
theorem RL (hop:x.op=12) (hks:x.ks=[k0,k1]):GM f l k0 k1=AE (Cb f) l x:=by
 unfold GM AE Cb
 rw [hks,hop]
 generalize hu:((17,0,0,0,0,0):AJ)=u
 generalize hj:((16,0,0,0,0,0):AJ)=j
 generalize hc0:f k0 l.length=c0
 have e1:(l++c0++[u]).length=l.length + c0.length + 1:=by simp <;> omega
 rw [e1]
 show _=l++(f k0 l.length++[((17,((l.length + (f k0 l.length).length + 1 + (f k1 (l.length + (f k0 l.length).length + 1)).length + 1:Nat):Int),0,0,0,0):AJ)]++f k1 (l.length + (f k0 l.length).length + 1)++[((16,((l.length + (f k0 l.length).length + 1 + (f k1 (l.length + (f k0 l.length).length + 1)).length + 1 + [AX 0].length:Nat):Int),0,0,0,0):AJ)]++[AX 0])
 rw [hc0]
 generalize hc1:f k1 (l.length + c0.length + 1)=c1
 have e2:(l++c0++[u]++c1++[j]).length=l.length + c0.length + 1 + c1.length + 1:=by simp <;> omega
 rw [e2,EG (l++c0++[u]++c1) [j] (by simp <;> omega),EG (l++c0++[u]) c1 (by simp <;> omega),FP (l++c0) u rfl]
 generalize AX 0=p
 rw [EG _ [p] (by simp <;> omega),FP _ j (by simp)]
 subst hu hj
 have e4:(l++c0++[(((17:Int),((l.length + c0.length + 1 + c1.length + 1:Nat):Int),(0:Int),(0:Int),(0:Int),(0:Int)):AJ)]++c1++[((16,0,0,0,0,0):AJ)]++[p]).length=l.length + c0.length + 1 + c1.length + 1 + 1:=by simp <;> omega
 rw [e4]
 simp [List.append_assoc]
theorem Rw (hop:x.op=13) (hks:x.ks=[k0,k1]):Gr f l k0 k1=AE (Cb f) l x:=by
 unfold Gr AE Cb
 rw [hks,hop]
 generalize hu:((17,0,0,0,0,0):AJ)=u
 generalize hj:((16,0,0,0,0,0):AJ)=j
 show _=l++(f k0 l.length++[((17,((l.length + (f k0 l.length).length + 1 + [AX 1].length + 1:Nat):Int),0,0,0,0):AJ)]++[AX 1]++[((16,((l.length + (f k0 l.length).length + 1 + [AX 1].length + 1 + (f k1 (l.length + (f k0 l.length).length + 1 + [AX 1].length + 1)).length:Nat):Int),0,0,0,0):AJ)]++f k1 (l.length + (f k0 l.length).length + 1 + [AX 1].length + 1))
 generalize hc0:f k0 l.length=c0
 generalize AX 1=p
 have e2:(l++c0++[u]++[p]++[j]).length=l.length + c0.length + 1 + [p].length + 1:=by simp <;> omega
 rw [e2,EG (l++c0++[u]++[p]) [j] (by simp <;> omega),EG (l++c0++[u]) [p] (by simp <;> omega),FP (l++c0) u rfl]
 have e3:(l++c0++[(u.1,((l.length + c0.length + 1 + [p].length + 1:Nat):Int),u.2.2)]++[p]++[j]).length=l.length + c0.length + 1 + [p].length + 1:=by simp <;> omega
 rw [e3]
 generalize hc2:f k1 (l.length + c0.length + 1 + [p].length + 1)=c2
 rw [EG _ c2 (by simp <;> omega),FP _ j (by simp)]
 subst hu hj
 have e4:(l++c0++[(((17:Int),((l.length + c0.length + 1 + [p].length + 1:Nat):Int),(0:Int),(0:Int),(0:Int),(0:Int)):AJ)]++[p]++[((16,0,0,0,0,0):AJ)]++c2).length=l.length + c0.length + 1 + [p].length + 1 + c2.length:=by simp <;> omega
 rw [e4]
 simp [List.append_assoc]
end
def Cg (h:Nat) (x:Ex):Prop:=x.height≤h∧(∃ q,EY x q=true)∧DT x
theorem HE {h:Nat} {x k:Ex} (hx:Cg (h + 1) x) (hk:k∈x.ks):Cg h k:=by
 obtain ⟨i,hi⟩:=List.mem_iff_getElem?.1 hk
 refine ⟨by have:=Mn hi; have:=hx.1; omega,?_,?_⟩
 ·obtain ⟨q,hq⟩:=hx.2.1
  cases x with
  | mk=>exact ⟨q - 1,Jn (II hq).2 hi⟩
 ·have:=hx.2.2
  cases x with
  | mk=>exact Hg this.2.2 hi
theorem Qj {h:Nat} {x:Ex} (hx:Cg h x):(x.ks.length:Int)=CP x.op:=by
 obtain ⟨q,hq⟩:=hx.2.1
 cases x with
 | mk=>exact (II hq).1
theorem eO {h:Nat} {x:Ex} (hx:Cg h x) (hop:x.op=18):∃ k0 k1 k2,x.ks=[k0,k1,k2]:=by
 have:=Qj hx
 rw [hop,show CP 18=3 from rfl] at this
 match hk:x.ks,this with
 | [k0,k1,k2],_=>exact ⟨k0,k1,k2,rfl⟩
 | [],h=>simp at h
 | [_],h=>simp at h
 | [_,_],h=>simp at h
 | _ :: _ :: _ :: _ :: _,h=>simp at h; omega
theorem O3 {h:Nat} {x:Ex} (hx:Cg h x) (hop:x.op=12∨x.op=13):∃ k0 k1,x.ks=[k0,k1]:=by
 have:=Qj hx
 rw [show CP x.op=2 by rcases hop with h | h <;> rw [h] <;> rfl] at this
 match hk:x.ks,this with
 | [k0,k1],_=>exact ⟨k0,k1,rfl⟩
 | [],h=>simp at h
 | [_],h=>simp at h
 | _ :: _ :: _ :: _,h=>simp at h; omega
theorem N7 {f:Ex→Nat→List AJ}:∀ (ks:List Ex) (n:Nat),(∀ k∈ks,∀ n,(f k n).length≤4 * nE k)→(EW f ks n).length≤4 * FA ks
 | [],n,_=>by simp [EW]
 | k :: ks,n,h=>by
  rw [EW,FA,List.length_append]
  have h1:=h k (by simp) n
  have h2:=N7 ks (n + (f k n).length) (fun k hk=>h k (by simp [hk]))
  omega
theorem Ln (mi ms mp mr:List (List UInt8×Int)):∀ (h:Nat) (x:Ex) (n:Nat),Cg h x→(AV mi ms mp mr h x n).length≤4 * nE x
 | 0,x,n,_=>Nat.zero_le _
 | h + 1,x,n,hx=>by
  have ih:∀ k∈x.ks,∀ n,(AV mi ms mp mr h k n).length≤4 * nE k:=fun k hk n=>Ln mi ms mp mr h k n (HE hx hk)
  rw [AV,Ma]
  generalize AV mi ms mp mr h=f at ih
  by_cases h18:x.op=18
  ·obtain ⟨k0,k1,k2,hks⟩:=eO hx h18
   rw [h18]
   show (Cb f x n).length≤_
   unfold Cb
   rw [hks] at ih ⊢
   rw [h18]
   have a0:=ih k0 (by simp) n
   have a1:=ih k1 (by simp) (n + (f k0 n).length + 1)
   have a2:=ih k2 (by simp) (n + (f k0 n).length + 1 + (f k1 (n + (f k0 n).length + 1)).length + 1)
   show (f k0 n++[_]++f k1 (n + (f k0 n).length + 1)++[_]++f k2 (n + (f k0 n).length + 1 + (f k1 (n + (f k0 n).length + 1)).length + 1)).length≤_
   simp only [List.length_append,List.length_singleton,FA]
   omega
  ·by_cases h12:x.op=12
   ·obtain ⟨k0,k1,hks⟩:=O3 hx (.inl h12)
    rw [h12]
    show (Cb f x n).length≤_
    unfold Cb
    rw [hks] at ih ⊢
    rw [h12]
    have a0:=ih k0 (by simp) n
    have a1:=ih k1 (by simp) (n + (f k0 n).length + 1)
    show (f k0 n++[_]++f k1 (n + (f k0 n).length + 1)++[_]++[AX 0]).length≤_
    simp only [List.length_append,List.length_singleton,FA]
    omega
   ·by_cases h13:x.op=13
    ·obtain ⟨k0,k1,hks⟩:=O3 hx (.inr h13)
     rw [h13]
     show (Cb f x n).length≤_
     unfold Cb
     rw [hks] at ih ⊢
     rw [h13]
     have a0:=ih k0 (by simp) n
     have a1:=ih k1 (by simp) (n + (f k0 n).length + 1 + [AX 1].length + 1)
     show (f k0 n++[_]++[AX 1]++[_]++f k1 (n + (f k0 n).length + 1 + [AX 1].length + 1)).length≤_
     simp only [List.length_append,List.length_singleton,FA] at a1 ⊢
     omega
    ·have e:(cond (x.op == 18) true (cond (x.op == 12) true (x.op == 13)))=false:=by
      rw [beq_eq_false_iff_ne.2 h18,beq_eq_false_iff_ne.2 h12,beq_eq_false_iff_ne.2 h13]
      rfl
     rw [e]
     show (EW f x.ks n++[_]).length≤_
     have:=N7 x.ks n ih
     rw [List.length_append,List.length_singleton]
     omega
theorem Jh {f:Ex→Nat→List AJ} {mi ms mp mr:List (List UInt8×Int)} {x:Ex}:∀ (ks:List Ex) (a:List AJ),Db f mi ms mp mr x ks a=a++(EW f ks a.length++[Ah mi ms mp mr x])
 | [],a=>by rw [Db,EW]; rfl
 | k :: ks,a=>by
  rw [Db,Jh ks,EW]
  unfold AE
  rw [List.length_append]
  simp [List.append_assoc]
theorem Vr {mi ms mp mr:List (List UInt8×Int)} {h:Nat} {l:List AJ} {x:Ex}:D7 (AV mi ms mp mr h) mi ms mp mr l x=AE (AV mi ms mp mr (h + 1)) l x:=by
 unfold D7
 rw [Jh]
 unfold AE
 rw [AV]
 cases x.op == 18 <;> cases x.op == 12 <;> cases x.op == 13 <;> rfl
section
variable {p0aaA:Option Addr} {p0aan:Nat} {p0aac:Nat} {p0abA:Option Addr} {p0abn:Nat} {p0abc:Nat} {p0acA:Option Addr} {p0acn:Nat} {p0acc:Nat} {p0adA:Option Addr} {p0adn:Nat} {p0adc:Nat} {bi:Nat} {mi:List (List UInt8×Int)} {bs:Nat} {ms:List (List UInt8×Int)} {bp:Nat} {mp:List (List UInt8×Int)} {br:Nat} {mr:List (List UInt8×Int)} {w:World}
theorem Vo (hm_mi:AZ.at BC bi mi w) (hm_ms:AZ.at BC bs ms w) (hm_mp:AZ.at BC bp mp w) (hm_mr:AZ.at BC br mr w) {h:Nat} (hih:∀ (L:List Th) (p1A:Option Addr) (l:List AJ) (p1c:Nat) (x:Ex) (p2A0:Option Addr) (p2c0:Nat) (we:World),rowsEx w p2A0 x.ks→Cg h x→l.length + 4 * nE x≤400000000→Below w.heap.size w we→AY w.heap.size we ([CM p1A p1c l]++L)→Calls Tryz.prog 22 ([.agg ⟨[.slice p0aaA p0aan p0aac,.slice p0abA p0abn p0abc,.slice p0acA p0acn p0acc,.slice p0adA p0adn p0adc,.map (some bi),.map (some bs),.map (some bp),.map (some br)]⟩,.slice p1A l.length p1c,.agg ⟨Bo x p2A0 p2c0⟩]:List Value).toArray we fun e w'=>∃ (rA0:Option Addr) (rc0:Nat),e=.returned (.slice rA0 (AE (AV mi ms mp mr h) l x).length rc0)∧Below w.heap.size w w'∧AY w.heap.size w' ([CM rA0 rc0 (AE (AV mi ms mp mr h) l x)]++L)) {L:List Th} {p1A:Option Addr} {l:List AJ} {p1c:Nat} {x:Ex} {p2A0:Option Addr} {p2c0:Nat} {we:World} (h_x0:rowsEx w p2A0 x.ks) (hx:Cg (h + 1) x) (hop:(x.op == 18)=true∨(x.op == 12)=true∨(x.op == 13)=true) (hb:l.length + 4 * nE x≤400000000) (B:Below w.heap.size w we) (H:AY w.heap.size we ([CM p1A p1c l]++L)):Calls Tryz.prog 54 ([.agg ⟨[.slice p0aaA p0aan p0aac,.slice p0abA p0abn p0abc,.slice p0acA p0acn p0acc,.slice p0adA p0adn p0adc,.map (some bi),.map (some bs),.map (some bp),.map (some br)]⟩,.slice p1A l.length p1c,.agg ⟨Bo x p2A0 p2c0⟩]:List Value).toArray we fun e w'=>∃ (rA0:Option Addr) (rc0:Nat),e=.returned (.slice rA0 (AE (Cb (AV mi ms mp mr h)) l x).length rc0)∧Below w.heap.size w w'∧AY w.heap.size w' ([CM rA0 rc0 (AE (Cb (AV mi ms mp mr h)) l x)]++L):=by
 have hfl:∀ k n,Cg h k→(AV mi ms mp mr h k n).length≤4 * nE k:=Ln mi ms mp mr h
 rw [Ma] at hb
 rcases hop with hop | hop | hop
 ·have h18:x.op=18:=eq_of_beq hop
  obtain ⟨k0,k1,k2,hks⟩:=eO hx h18
  have hg:∀ k∈[k0,k1,k2],Cg h k:=fun k hk=>HE hx (by rw [hks]; exact hk)
  rw [hks] at h_x0 hb
  simp only [FA] at hb
  have:=RK (Cg h) L (AV mi ms mp mr h) p0aaA p0aan p0aac p0abA p0abn p0abc p0acA p0acn p0acc p0adA p0adn p0adc bi mi bs ms bp mp br mr p1A l p1c x p2A0 k0 k1 k2 p2c0 w we hm_mi hm_ms hm_mp hm_mr h_x0 (fun L p1A l p1c x p2A0 p2c0 we a b c d e=>hih L p1A l p1c x p2A0 p2c0 we a b c d e) hg hfl (by omega) B H
  rw [Rx _ l x k0 k1 k2 h18 hks] at this
  rw [show Bo x p2A0 p2c0=[.int .i64 18,.int .i64 x.num,.int .i64 x.den,.int .i64 x.mu,.int .i64 x.hu,.int .i64 x.du,.string ⟨⟨x.nm⟩⟩,.int .i64 x.cnt,.int .i64 x.md,.slice p2A0 3 p2c0] by unfold Bo; rw [h18,hks]; rfl]
  exact this
 ·have h12:x.op=12:=eq_of_beq hop
  obtain ⟨k0,k1,hks⟩:=O3 hx (.inl h12)
  have hg:∀ k∈[k0,k1],Cg h k:=fun k hk=>HE hx (by rw [hks]; exact hk)
  rw [hks] at h_x0 hb
  simp only [FA] at hb
  have:=OZ (Cg h) L (AV mi ms mp mr h) p0aaA p0aan p0aac p0abA p0abn p0abc p0acA p0acn p0acc p0adA p0adn p0adc bi mi bs ms bp mp br mr p1A l p1c x p2A0 k0 k1 p2c0 w we hm_mi hm_ms hm_mp hm_mr h_x0 (fun L p1A l p1c x p2A0 p2c0 we a b c d e=>hih L p1A l p1c x p2A0 p2c0 we a b c d e) hg hfl (by omega) B H
  rw [RL _ l x k0 k1 h12 hks] at this
  rw [show Bo x p2A0 p2c0=[.int .i64 12,.int .i64 x.num,.int .i64 x.den,.int .i64 x.mu,.int .i64 x.hu,.int .i64 x.du,.string ⟨⟨x.nm⟩⟩,.int .i64 x.cnt,.int .i64 x.md,.slice p2A0 2 p2c0] by unfold Bo; rw [h12,hks]; rfl]
  exact this
 ·have h13:x.op=13:=eq_of_beq hop
  obtain ⟨k0,k1,hks⟩:=O3 hx (.inr h13)
  have hg:∀ k∈[k0,k1],Cg h k:=fun k hk=>HE hx (by rw [hks]; exact hk)
  rw [hks] at h_x0 hb
  simp only [FA] at hb
  have:=RJ (Cg h) L (AV mi ms mp mr h) p0aaA p0aan p0aac p0abA p0abn p0abc p0acA p0acn p0acc p0adA p0adn p0adc bi mi bs ms bp mp br mr p1A l p1c x p2A0 k0 k1 p2c0 w we hm_mi hm_ms hm_mp hm_mr h_x0 (fun L p1A l p1c x p2A0 p2c0 we a b c d e=>hih L p1A l p1c x p2A0 p2c0 we a b c d e) hg hfl (by omega) B H
  rw [Rw _ l x k0 k1 h13 hks] at this
  rw [show Bo x p2A0 p2c0=[.int .i64 13,.int .i64 x.num,.int .i64 x.den,.int .i64 x.mu,.int .i64 x.hu,.int .i64 x.du,.string ⟨⟨x.nm⟩⟩,.int .i64 x.cnt,.int .i64 x.md,.slice p2A0 2 p2c0] by unfold Bo; rw [h13,hks]; rfl]
  exact this
theorem Q2 (hm_mi:AZ.at BC bi mi w) (hm_ms:AZ.at BC bs ms w) (hm_mp:AZ.at BC bp mp w) (hm_mr:AZ.at BC br mr w):∀ (h:Nat),∀ (L:List Th) (p1A:Option Addr) (l:List AJ) (p1c:Nat) (x:Ex) (p2A0:Option Addr) (p2c0:Nat) (we:World),rowsEx w p2A0 x.ks→Cg h x→l.length + 4 * nE x≤400000000→Below w.heap.size w we→AY w.heap.size we ([CM p1A p1c l]++L)→Calls Tryz.prog 22 ([.agg ⟨[.slice p0aaA p0aan p0aac,.slice p0abA p0abn p0abc,.slice p0acA p0acn p0acc,.slice p0adA p0adn p0adc,.map (some bi),.map (some bs),.map (some bp),.map (some br)]⟩,.slice p1A l.length p1c,.agg ⟨Bo x p2A0 p2c0⟩]:List Value).toArray we fun e w'=>∃ (rA0:Option Addr) (rc0:Nat),e=.returned (.slice rA0 (AE (AV mi ms mp mr h) l x).length rc0)∧Below w.heap.size w w'∧AY w.heap.size w' ([CM rA0 rc0 (AE (AV mi ms mp mr h) l x)]++L)
 | 0=>fun L p1A l p1c x p2A0 p2c0 we _ hx=>by
  have:=hx.1
  cases x with
  | mk=>rw [Ex.height] at this; omega
 | h + 1=>fun L p1A l p1c x p2A0 p2c0 we h_x0 hx hb B H=>by
  have hih:=Q2 hm_mi hm_ms hm_mp hm_mr h
  have:=Ry (Cg h) L (AV mi ms mp mr h) p0aaA p0aan p0aac p0abA p0abn p0abc p0acA p0acn p0acc p0adA p0adn p0adc bi mi bs ms bp mp br mr p1A l p1c x p2A0 p2c0 w we hm_mi hm_ms hm_mp hm_mr h_x0 (fun L p1A l p1c x p2A0 p2c0 we a b c d e=>hih L p1A l p1c x p2A0 p2c0 we a b c d e)
   (fun L p1A l2 p1c x' p2A0 p2c0 we a hxx hop hb2 B2 H2=>by subst hxx; exact Vo hm_mi hm_ms hm_mp hm_mr hih a hx hop hb2 B2 H2) hx.2.2 (fun k hk=>HE hx hk) (Ln mi ms mp mr h) hb B H
  rw [Vr] at this
  exact this
theorem Yb (hm_mi:AZ.at BC bi mi w) (hm_ms:AZ.at BC bs ms w) (hm_mp:AZ.at BC bp mp w) (hm_mr:AZ.at BC br mr w) (x:Ex) (p2A0:Option Addr) (p2c0:Nat) (h_x0:rowsEx w p2A0 x.ks) (hx:Cg x.height x) (hb:4 * nE x≤400000000):Calls Tryz.prog 22 ([.agg ⟨[.slice p0aaA p0aan p0aac,.slice p0abA p0abn p0abc,.slice p0acA p0acn p0acc,.slice p0adA p0adn p0adc,.map (some bi),.map (some bs),.map (some bp),.map (some br)]⟩,.slice none 0 0,.agg ⟨Bo x p2A0 p2c0⟩]:List Value).toArray w fun e w'=>∃ (rA0:Option Addr) (rc0:Nat),e=.returned (.slice rA0 (AV mi ms mp mr x.height x 0).length rc0)∧Below w.heap.size w w'∧AY w.heap.size w' [CM rA0 rc0 (AV mi ms mp mr x.height x 0)]:=by
 have H:AY w.heap.size w ([CM none 0 []]++[]):=(AY.nil (Nat.le_refl _)).addNil _ _ _
 have:=Q2 (p0aaA:=p0aaA) (p0aan:=p0aan) (p0aac:=p0aac) (p0abA:=p0abA) (p0abn:=p0abn) (p0abc:=p0abc) (p0acA:=p0acA) (p0acn:=p0acn) (p0acc:=p0acc) (p0adA:=p0adA) (p0adn:=p0adn) (p0adc:=p0adc) hm_mi hm_ms hm_mp hm_mr x.height [] none [] 0 x p2A0 p2c0 w h_x0 hx (by simpa using hb) (Below.refl _ _) H
 refine this.mono fun e w' hh=>?_
 obtain ⟨A,c,h1,h2,h3⟩:=hh
 exact ⟨A,c,h1,h2,h3⟩
end
end Go.Proofs.YtmcpjkcggfmcmaaGreatDoor

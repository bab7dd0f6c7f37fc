/-
  Part 31 of a proof: contracts of functions.
-/
import Derived.Test.YtmcpjkcggfmcmaaGreatDoorD30
set_option linter.all false
namespace Go.Proofs.YtmcpjkcggfmcmaaGreatDoor
noncomputable section
open Go.RowKit
set_option maxRecDepth 100000
set_option maxHeartbeats 1000000
attribute [local irreducible] BO CB AE AG AL Ay Aj AP Bc Cq Eb CT CO At Fr
section
variable (C9:Ex→Prop)
def EL (f:Ex→Nat→List AK) (mi:List (List UInt8×Int)) (ms:List (List UInt8×Int)) (mp:List (List UInt8×Int)) (mr:List (List UInt8×Int)) (x:Ex):List (Ex)→List AK→List AK
 | [],a0_0=>a0_0++[((As mi ms mp mr x))]
 | e0 :: tl,a0_0=>EL f mi ms mp mr x tl (AF f a0_0 e0)
theorem Qo {f:Ex→Nat→List AK} {d:List (List UInt8×Int)} {ms:List (List UInt8×Int)} {c:List (List UInt8×Int)} {b:List (List UInt8×Int)} {x:Ex} {a:List AK}:EL f d ms c b x [] a=(a++[((As d ms c b x))]):=by rw [EL]
theorem QG {f:Ex→Nat→List AK} {e:List (List UInt8×Int)} {ms:List (List UInt8×Int)} {d:List (List UInt8×Int)} {c:List (List UInt8×Int)} {x:Ex} {a:List AK} {es:List (Ex)} (i:Nat) (b:Ex) (hi:es[i]?=some b):EL f e ms d c x (es.drop i) a=(EL f e ms d c x (es.drop (i + 1)) (AF f a b)):=by
 have hl:i < es.length:=(List.getElem?_eq_some_iff.1 hi).1
 have he:es[i]=b:=(List.getElem?_eq_some_iff.1 hi).2
 rw [← List.getElem_cons_drop hl,EL] <;> (try rw [he])
def FK (f:Ex→Nat→List AK) (mi:List (List UInt8×Int)) (ms:List (List UInt8×Int)) (mp:List (List UInt8×Int)) (mr:List (List UInt8×Int)) (l:List AK) (x:Ex):List AK:=cond (x.op == 18) ((AF (C3 f) l x)) (cond (x.op == 12) ((AF (C3 f) l x)) (cond (x.op == 13) ((AF (C3 f) l x)) (EL f mi ms mp mr x x.ks l)))
noncomputable def V9:Code:=Tryz.f22.body.getD .skip
def Yu:=AB 60 ([.code V9])
def lj:=AB 60 (AG Yu)
def li:=AB 60 (AG lj)
def t8:=AB 60 (AE li)
def Yt:=AB 60 (AL Yu)
def lh:=AB 60 (AG Yt)
def lg:=AB 60 (AG lh)
def t7:=AB 60 (AE lg)
def Ys:=AB 60 (AL Yt)
def lf:=AB 60 (AG Ys)
def rB:=AB 60 (AE lf)
def Tb:=AB 60 (AL Ys)
def PE:=AB 60 (Ay Tb)
def bG:=AB (BA Ai 90 (AG PE)) (AG PE)
def qz:=AB 60 (AE (AE bG))
def Ta:=AB 60 (AL PE)
def TZ:=AB (BA Bb 90 (AE Ta)) (AE Ta)
def qy:=AB 60 (AE TZ)
theorem Ve (L:List Th) (f:Ex→Nat→List AK) (p0aaA:Option Addr) (p0aan p0aac:Nat) (p0abA:Option Addr) (p0abn p0abc:Nat) (p0acA:Option Addr) (p0acn p0acc:Nat) (p0adA:Option Addr) (p0adn p0adc bi:Nat) (q:List (List UInt8×Int)) (bs:Nat) (ms:List (List UInt8×Int)) (bp:Nat) (p:List (List UInt8×Int)) (br:Nat) (o:List (List UInt8×Int)) (j:Option Addr) (l:List AK) (i:Nat) (x:Ex) (b:Option Addr) (a:Nat) (w m:World) (k1:AY.at BL bi q w) (g1:AY.at BL bs ms w) (i1:AY.at BL bp p w) (h1:AY.at BL br o w) (b0:rowsEx w b x.ks) (u2:∀ (L:List Th) (j:Option Addr) (l:List AK) (i:Nat) (x':Ex) (b:Option Addr) (a:Nat) (m:World),rowsEx w b x'.ks→C9 x'→l.length + 4 * nE x'≤400000000→Below w.heap.size w m→AU w.heap.size m ([Cj j i l]++L)→Calls Tryz.prog 22 ([.agg ⟨[.slice p0aaA p0aan p0aac,.slice p0abA p0abn p0abc,.slice p0acA p0acn p0acc,.slice p0adA p0adn p0adc,.map (some bi),.map (some bs),.map (some bp),.map (some br)]⟩,.slice j l.length i,.agg ⟨CW x' b a⟩]:List Value).toArray m fun e w'=>∃ (a0:Option Addr) (z:Nat),e=.returned (.slice a0 (AF f l x').length z)∧Below w.heap.size w w'∧AU w.heap.size w' ([Cj a0 z (AF f l x')]++L)) (m1:∀ (L:List Th) (j:Option Addr) (l:List AK) (i:Nat) (x':Ex) (b:Option Addr) (a:Nat) (m:World),rowsEx w b x'.ks→x'=x→((x.op == 18)=true∨(x.op == 12)=true∨(x.op == 13)=true)→l.length + 4 * nE x'≤400000000→Below w.heap.size w m→AU w.heap.size m ([Cj j i l]++L)→Calls Tryz.prog 54 ([.agg ⟨[.slice p0aaA p0aan p0aac,.slice p0abA p0abn p0abc,.slice p0acA p0acn p0acc,.slice p0adA p0adn p0adc,.map (some bi),.map (some bs),.map (some bp),.map (some br)]⟩,.slice j l.length i,.agg ⟨CW x' b a⟩]:List Value).toArray m fun e w'=>∃ (a0:Option Addr) (z:Nat),e=.returned (.slice a0 (AF (C3 f) l x').length z)∧Below w.heap.size w w'∧AU w.heap.size w' ([Cj a0 z (AF (C3 f) l x')]++L)) (d1:Dq x) (q0:∀ k∈x.ks,C9 k) (v2:∀ k n,C9 k→(f k n).length≤4 * nE k) (hb:l.length + 4 * nE x≤400000000) (B:Below w.heap.size w m) (H:AU w.heap.size m ([(Cj j i l)]++L)):Calls Tryz.prog 22 ([.agg ⟨[.slice p0aaA p0aan p0aac,.slice p0abA p0abn p0abc,.slice p0acA p0acn p0acc,.slice p0adA p0adn p0adc,.map (some bi),.map (some bs),.map (some bp),.map (some br)]⟩,.slice j l.length i,.agg ⟨[D x.op,D x.num,D x.den,D x.mu,D x.hu,D x.du,.string ⟨⟨x.nm⟩⟩,D x.cnt,D x.md,.slice b x.ks.length a]⟩]:List Value).toArray m fun e w'=>∃ (a0:Option Addr) (z:Nat),e=.returned (.slice a0 ((FK f q ms p o l x).length) z)∧Below w.heap.size w w'∧AU w.heap.size w' ([Cj a0 z (FK f q ms p o l x)]++L):=by
 refine Af (fn:=Tryz.f22) (c:=V9) (n:=37) ?_
 have K1:Wk w m [] [(Cj j i l)] L:=⟨B,H⟩
 clear B H
 have f4:=UY d1
 let z4:List Value:=[.slice p0aaA p0aan p0aac,.slice p0abA p0abn p0abc,.slice p0acA p0acn p0acc,.slice p0adA p0adn p0adc,.map (some bi),.map (some bs),.map (some bp),.map (some br)]
 let z6:List BI:=[⟨m.heap.size,0,z4,75,true⟩,⟨m.heap.size + 1,0,(CW x b a),32,true⟩]
 refine C8 Yu z6 K1 [(1,0)] fun w1 K2=>?_
 refine AM (x.op == 18) (fun c2=>?_) (fun c2=>?_)
 ·refine AC lj K2 [] fun w3 K3=>?_
  refine AM (x.op == 18) (fun _=>?_) (fun h=>nomatch h.symm.trans c2)
  refine AC li K3 [(0,0),(1,0)] fun w5 K4=>?_
  have Kf:=(K4.pickL (L':=[(Cj j i l)]++[]) [0] rfl (by decide)).front
  refine CJ (args:=[.agg ⟨z4⟩,.slice j l.length i,.agg ⟨[D x.op,D x.num,D x.den,D x.mu,D x.hu,D x.du,.string ⟨⟨x.nm⟩⟩,D x.cnt,D x.md,.slice b x.ks.length a]⟩]) (m1 _ j l i x b a w5 b0 rfl (by first | exact .inl (by assumption) | exact .inr (.inl (by assumption)) | exact .inr (.inr (by assumption))) hb K4.B Kf) fun en w7 hh=>?_
  obtain ⟨f1,e1,rfl,b7,Hn⟩:=hh
  refine ⟨_,rfl,?_⟩
  have K5:=Wk.unfront b7 Hn
  refine AC t8 K5 [] fun w8 K6=>?_
  have hS:(FK f q ms p o l x)=(AF (C3 f) l x):=by unfold FK; rw [c2] <;> rfl
  exact Ab K6 (0,0) (.slice f1 (((AF (C3 f) l x)).length) e1) ⟨f1,e1,by rw [hS] <;> rfl,K6.B,by rw [hS]; exact K6.own [0] rfl (by decide)⟩
 ·refine AC Yt K2 [] fun w9 K7=>?_
  refine AM (x.op == 12) (fun y0=>?_) (fun y0=>?_)
  ·refine AC lh K7 [] fun c4 K8=>?_
   refine AM (x.op == 12) (fun _=>?_) (fun h=>nomatch h.symm.trans y0)
   refine AC lg K8 [(0,0),(1,0)] fun t2 K9=>?_
   have Kf:=(K9.pickL (L':=[(Cj j i l)]++[]) [0] rfl (by decide)).front
   refine CJ (args:=[.agg ⟨z4⟩,.slice j l.length i,.agg ⟨[D x.op,D x.num,D x.den,D x.mu,D x.hu,D x.du,.string ⟨⟨x.nm⟩⟩,D x.cnt,D x.md,.slice b x.ks.length a]⟩]) (m1 _ j l i x b a t2 b0 rfl (by first | exact .inl (by assumption) | exact .inr (.inl (by assumption)) | exact .inr (.inr (by assumption))) hb K9.B Kf) fun en b4 hh=>?_
   obtain ⟨b1,x0,rfl,a3,Hn⟩:=hh
   refine ⟨_,rfl,?_⟩
   have l3:=Wk.unfront a3 Hn
   refine AC t7 l3 [] fun a4 t1=>?_
   have hS:(FK f q ms p o l x)=(AF (C3 f) l x):=by unfold FK; rw [c2,y0] <;> rfl
   exact Ab t1 (0,0) (.slice b1 (((AF (C3 f) l x)).length) x0) ⟨b1,x0,by rw [hS] <;> rfl,t1.B,by rw [hS]; exact t1.own [0] rfl (by decide)⟩
  ·refine AC Ys K7 [] fun z3 i2=>?_
   refine AM (x.op == 13) (fun q1=>?_) (fun q1=>?_)
   ·refine AC lf i2 [(0,0),(1,0)] fun s2 h2=>?_
    have Kf:=(h2.pickL (L':=[(Cj j i l)]++[]) [0] rfl (by decide)).front
    refine CJ (args:=[.agg ⟨z4⟩,.slice j l.length i,.agg ⟨[D x.op,D x.num,D x.den,D x.mu,D x.hu,D x.du,.string ⟨⟨x.nm⟩⟩,D x.cnt,D x.md,.slice b x.ks.length a]⟩]) (m1 _ j l i x b a s2 b0 rfl (by first | exact .inl (by assumption) | exact .inr (.inl (by assumption)) | exact .inr (.inr (by assumption))) hb h2.B Kf) fun en y3 hh=>?_
    obtain ⟨a1,w0,rfl,z2,Hn⟩:=hh
    refine ⟨_,rfl,?_⟩
    have k3:=Wk.unfront z2 Hn
    refine AC rB k3 [] fun x3 s1=>?_
    have hS:(FK f q ms p o l x)=(AF (C3 f) l x):=by unfold FK; rw [c2,y0,q1] <;> rfl
    exact Ab s1 (0,0) (.slice a1 (((AF (C3 f) l x)).length) w0) ⟨a1,w0,by rw [hS] <;> rfl,s1.B,by rw [hS]; exact s1.own [0] rfl (by decide)⟩
   ·refine AC Tb i2 [(1,9)] fun r2 i3=>?_
    have h3:Wk w r2 z6 [(Cj j i l)] L:=i3.pk [0,1] [0]
    have c0:(FK f q ms p o l x)=EL f q ms p o x x.ks l:=by unfold FK; rw [c2,y0,q1] <;> rfl
    refine BB [(1,.slice j l.length i),(3,.pointer (some ⟨m.heap.size,0,none⟩)),(5,.pointer (some ⟨m.heap.size + 1,0,none⟩)),(6,.slice none 0 0),(20,.slice b x.ks.length a),(21,D ((x.ks.length:Int))),(22,D (((0:Nat):Int)))] fun q3=>?_
    refine Bi (by kernel_rfl) (fun E v1=>∃ (y:Nat) (d:List AK) (t:Option Addr) (s:Nat) (E0:Nat→Value),y≤x.ks.length∧E=Aw E0 [(1,.slice t d.length s),(3,.pointer (some ⟨m.heap.size,0,none⟩)),(5,.pointer (some ⟨m.heap.size + 1,0,none⟩)),(6,.slice none 0 0),(20,.slice b x.ks.length a),(21,D ((x.ks.length:Int))),(22,D ((y:Int)))]∧(FK f q ms p o l x)=EL f q ms p o x (List.drop y x.ks) d∧d.length + 4 * Gw (List.drop y x.ks) + 4≤400000000∧Wk w v1 z6 [(Cj t s d)] L) (fun E _=>x.ks.length - AQ (E 22)) ⟨0,l,j,i,q3,Nat.zero_le _,rfl,c0,by (rw [PS] at hb; simp only [List.drop_zero]; omega),h3⟩ ?_
    clear c0
    rintro E v1 ⟨y,d,t,s,E0,g4,rfl,c0,c1,g3⟩ r0
    refine AC PE g3 [] fun v3 g2=>?_
    refine AM (decide ((y:Int) < (x.ks.length:Int))) (fun p1=>?_) (fun p1=>?_)
    ·have p0:y < x.ks.length:=by have:=of_decide_eq_true p1; omega
     obtain ⟨r,h0⟩:∃ e,x.ks[y]?=some e:=⟨_,List.getElem?_eq_getElem p0⟩
     rw [QG y r h0] at c0
     obtain ⟨t0,v0,rfl,a2,b2⟩:=b0.all0 (by omega)
     obtain ⟨v,u,y1,n1⟩:=b2 y _ h0
     refine BG Ai bG g2 [] fun q2 f2=>?_
     refine BH (g:=t0) (off:=v0) (cap:=a) (sz:=10) (k:=y) (len:=x.ks.length) (some 24) p0 Tryz.underlying30 ?_
     let z7:List Value:=[D r.op,D r.num,D r.den,D r.mu,D r.hu,D r.du,.string ⟨⟨r.nm⟩⟩,D r.cnt,D r.md,.slice v r.ks.length u]
     refine CC 32 t0 (v0 + y * 10) z7 (some 25) (Ac y1 a2 f2.B) ?_
     refine C8 qz [⟨m.heap.size,0,z4,75,true⟩,⟨m.heap.size + 1,0,(CW x (some ⟨t0,v0,none⟩) a),32,true⟩,⟨q2.heap.size,0,(CW r v u),32,true⟩] f2 [(2,0),(0,0),(2,0)] fun p2 e2=>?_
     have Kf:=(e2.pickL (L':=[(Cj t s d)]++[]) [0] rfl (by decide)).front
     refine CJ (args:=[.agg ⟨z4⟩,.slice t d.length s,.agg ⟨z7⟩]) (u2 _ t d s r v u p2 n1 (q0 _ (List.mem_of_getElem? h0)) (by rw [Jz h0] at c1; simp only [Gw] at c1; omega) e2.B Kf) fun en u3 hh=>?_
     obtain ⟨f0,d0,rfl,y2,Hn⟩:=hh
     refine ⟨_,rfl,?_⟩
     have f3:=Wk.unfront y2 Hn
     have e4:=HZ v2 d (k:=r) (q0 _ (List.mem_of_getElem? h0))
     refine AC (Aj Tb) f3 [] fun m2 e3=>?_
     refine BB [(1,.slice f0 ((AF f d r).length) d0),(3,.pointer (some ⟨m.heap.size,0,none⟩)),(5,.pointer (some ⟨m.heap.size + 1,0,none⟩)),(6,.slice none 0 0),(20,.slice (some ⟨t0,v0,none⟩) x.ks.length a),(21,D ((x.ks.length:Int))),(22,D (IntKind.i64.wrap ((y:Int) + 1)))] fun m3=>?_
     have d3:Wk w m2 [⟨m.heap.size,0,z4,75,true⟩,⟨m.heap.size + 1,0,(CW x (some ⟨t0,v0,none⟩) a),32,true⟩] [(Cj f0 d0 (AF f d r))] L:=e3.pk [0,1] [0]
     rw [Bs y (by omega)]
     refine r0 _ _ ⟨y + 1,(AF f d r),f0,d0,m3,p0,rfl,by rw [c0] <;> rfl,by (rw [Jz h0] at c1; simp only [Gw] at c1; omega),d3⟩ ?_
     show x.ks.length - AQ (D ((y + 1:Nat):Int)) < x.ks.length - AQ (D (y:Int))
     simp only [AQ]
     omega
    ·have z1:y=x.ks.length:=by have:=of_decide_eq_false p1; omega
     rw [z1,List.drop_length,Qo] at c0
     refine AC Ta g2 [(0,0),(1,0)] fun l2 k0=>?_
     refine CJ (Pe p0aaA p0aan p0aac p0abA p0abn p0abc p0acA p0acn p0acc p0adA p0adn p0adc bi q bs ms bp p br o x b a l2 (AY.below k1 k0.B) (AY.below g1 k0.B) (AY.below i1 k0.B) (AY.below h1 k0.B) (b0.below k0.B) d1) fun en x1 hh=>?_
     obtain ⟨rfl,x2⟩:=hh
     refine ⟨_,rfl,?_⟩
     have c3:=k0.below x2
     let z5:List Value:=[D (((As q ms p o x)).1),D (((As q ms p o x)).2.1),D (((As q ms p o x)).2.2.1),D (((As q ms p o x)).2.2.2.1),D (((As q ms p o x)).2.2.2.2.1),D (((As q ms p o x)).2.2.2.2.2)]
     refine Cb Bb TZ [⟨m.heap.size,0,z4,75,true⟩,⟨m.heap.size + 1,0,(CW x b a),32,true⟩,⟨x1.heap.size,0,z5,53,true⟩] c3 [] fun t3 z0=>?_
     refine Ch z0.H (z0.ix 0) (z0.at 0 rfl) (((As q ms p o x))) z5 rfl (x1.heap.size) (z0.ent 2 (by kernel_rfl)) (DM TZ) (by kernel_rfl) (.tmp 31) (.tmp 35) 47 (by kernel_rfl) (by kernel_rfl) (by kernel_rfl) (by decide) (by kernel_rfl) (by kernel_rfl) rfl rfl (by ((try simp only [maxLen,Dk,List.length_set,List.length_append,List.length_cons,List.length_nil,List.length_singleton]) <;> omega)) fun k2 d2 s3 Hn w2=>?_
     have b3:=z0.put 0 (by simp) w2 Hn
     refine AC qy b3 [] fun r3 r1=>?_
     have hS:(FK f q ms p o l x)=d++[((As q ms p o x))]:=by rw [c0] <;> rfl
     exact Ab r1 (0,0) (.slice k2 ((d++[((As q ms p o x))]).length) d2) ⟨k2,d2,by rw [hS] <;> rfl,r1.B,by rw [hS]; exact r1.own [0] rfl (by decide)⟩
end
end
end Go.Proofs.YtmcpjkcggfmcmaaGreatDoor
namespace Go.Proofs.YtmcpjkcggfmcmaaGreatDoor
open Go.RowKit
set_option maxRecDepth 100000
set_option maxHeartbeats 600000
theorem FV (A B:List AK) {n:Nat} (h:n < A.length) (v:Int):Aq (A++B) n v=Aq A n v++B:=by
 unfold Aq
 rw [List.getD_eq_getElem?_getD,List.getD_eq_getElem?_getD,List.getElem?_append_left h,List.set_append,if_pos h]
theorem Gn (A:List AK) (a:AK) {n:Nat} (h:n=A.length) (v:Int):Aq (A++[a]) n v=A++[(a.1,v,a.2.2)]:=by
 subst h
 unfold Aq
 simp [List.getD_eq_getElem?_getD]
section
variable (f:Ex→Nat→List AK) (l:List AK) (x k0 k1 k2:Ex)
theorem Vd (hop:x.op=18) (a:x.ks=[k0,k1,k2]):JD f l k0 k1 k2=AF (C3 f) l x:=by
 unfold JD AF C3
 rw [a,hop]
 generalize hu:((17,0,0,0,0,0):AK)=u
 generalize hj:((16,0,0,0,0,0):AK)=j
 generalize hc0:f k0 l.length=c0
 have e:(l++c0++[u]).length=l.length + c0.length + 1:=by simp <;> omega
 rw [e]
 show _=l++(f k0 l.length++[((17,((l.length + (f k0 l.length).length + 1 + (f k1 (l.length + (f k0 l.length).length + 1)).length + 1:Nat):Int),0,0,0,0):AK)]++f k1 (l.length + (f k0 l.length).length + 1)++[((16,((l.length + (f k0 l.length).length + 1 + (f k1 (l.length + (f k0 l.length).length + 1)).length + 1 + (f k2 (l.length + (f k0 l.length).length + 1 + (f k1 (l.length + (f k0 l.length).length + 1)).length + 1)).length:Nat):Int),0,0,0,0):AK)]++f k2 (l.length + (f k0 l.length).length + 1 + (f k1 (l.length + (f k0 l.length).length + 1)).length + 1))
 rw [hc0]
 generalize hc1:f k1 (l.length + c0.length + 1)=c1
 have d:(l++c0++[u]++c1++[j]).length=l.length + c0.length + 1 + c1.length + 1:=by simp <;> omega
 rw [d,FV (l++c0++[u]++c1) [j] (by simp <;> omega),FV (l++c0++[u]) c1 (by simp <;> omega),Gn (l++c0) u rfl]
 have c:(l++c0++[(u.1,((l.length + c0.length + 1 + c1.length + 1:Nat):Int),u.2.2)]++c1++[j]).length=l.length + c0.length + 1 + c1.length + 1:=by simp <;> omega
 rw [c]
 generalize hc2:f k2 (l.length + c0.length + 1 + c1.length + 1)=c2
 rw [FV _ c2 (by simp <;> omega),Gn _ j (by simp)]
 subst hu hj
 have b:(l++c0++[(((17:Int),((l.length + c0.length + 1 + c1.length + 1:Nat):Int),(0:Int),(0:Int),(0:Int),(0:Int)):AK)]++c1++[((16,0,0,0,0,0):AK)]++c2).length=l.length + c0.length + 1 + c1.length + 1 + c2.length:=by simp <;> omega
 rw [b]
 simp [List.append_assoc]
theorem U0 (hop:x.op=12) (a:x.ks=[k0,k1]):IY f l k0 k1=AF (C3 f) l x:=by
 unfold IY AF C3
 rw [a,hop]
 generalize hu:((17,0,0,0,0,0):AK)=u
 generalize hj:((16,0,0,0,0,0):AK)=j
 generalize hc0:f k0 l.length=c0
 have d:(l++c0++[u]).length=l.length + c0.length + 1:=by simp <;> omega
 rw [d]
 show _=l++(f k0 l.length++[((17,((l.length + (f k0 l.length).length + 1 + (f k1 (l.length + (f k0 l.length).length + 1)).length + 1:Nat):Int),0,0,0,0):AK)]++f k1 (l.length + (f k0 l.length).length + 1)++[((16,((l.length + (f k0 l.length).length + 1 + (f k1 (l.length + (f k0 l.length).length + 1)).length + 1 + [AZ 0].length:Nat):Int),0,0,0,0):AK)]++[AZ 0])
 rw [hc0]
 generalize hc1:f k1 (l.length + c0.length + 1)=c1
 have c:(l++c0++[u]++c1++[j]).length=l.length + c0.length + 1 + c1.length + 1:=by simp <;> omega
 rw [c,FV (l++c0++[u]++c1) [j] (by simp <;> omega),FV (l++c0++[u]) c1 (by simp <;> omega),Gn (l++c0) u rfl]
 generalize AZ 0=p
 rw [FV _ [p] (by simp <;> omega),Gn _ j (by simp)]
 subst hu hj
 have b:(l++c0++[(((17:Int),((l.length + c0.length + 1 + c1.length + 1:Nat):Int),(0:Int),(0:Int),(0:Int),(0:Int)):AK)]++c1++[((16,0,0,0,0,0):AK)]++[p]).length=l.length + c0.length + 1 + c1.length + 1 + 1:=by simp <;> omega
 rw [b]
 simp [List.append_assoc]
theorem Vc (hop:x.op=13) (a:x.ks=[k0,k1]):JC f l k0 k1=AF (C3 f) l x:=by
 unfold JC AF C3
 rw [a,hop]
 generalize hu:((17,0,0,0,0,0):AK)=u
 generalize hj:((16,0,0,0,0,0):AK)=j
 show _=l++(f k0 l.length++[((17,((l.length + (f k0 l.length).length + 1 + [AZ 1].length + 1:Nat):Int),0,0,0,0):AK)]++[AZ 1]++[((16,((l.length + (f k0 l.length).length + 1 + [AZ 1].length + 1 + (f k1 (l.length + (f k0 l.length).length + 1 + [AZ 1].length + 1)).length:Nat):Int),0,0,0,0):AK)]++f k1 (l.length + (f k0 l.length).length + 1 + [AZ 1].length + 1))
 generalize hc0:f k0 l.length=c0
 generalize AZ 1=p
 have d:(l++c0++[u]++[p]++[j]).length=l.length + c0.length + 1 + [p].length + 1:=by simp <;> omega
 rw [d,FV (l++c0++[u]++[p]) [j] (by simp <;> omega),FV (l++c0++[u]) [p] (by simp <;> omega),Gn (l++c0) u rfl]
 have c:(l++c0++[(u.1,((l.length + c0.length + 1 + [p].length + 1:Nat):Int),u.2.2)]++[p]++[j]).length=l.length + c0.length + 1 + [p].length + 1:=by simp <;> omega
 rw [c]
 generalize hc2:f k1 (l.length + c0.length + 1 + [p].length + 1)=c2
 rw [FV _ c2 (by simp <;> omega),Gn _ j (by simp)]
 subst hu hj
 have b:(l++c0++[(((17:Int),((l.length + c0.length + 1 + [p].length + 1:Nat):Int),(0:Int),(0:Int),(0:Int),(0:Int)):AK)]++[p]++[((16,0,0,0,0,0):AK)]++c2).length=l.length + c0.length + 1 + [p].length + 1 + c2.length:=by simp <;> omega
 rw [b]
 simp [List.append_assoc]
end
def C9 (h:Nat) (x:Ex):Prop:=x.height≤h∧(∃ q,IM x q=true)∧Dq x
theorem JT {h:Nat} {x k:Ex} (a:C9 (h + 1) x) (c:k∈x.ks):C9 h k:=by
 obtain ⟨i,hi⟩:=List.mem_iff_getElem?.1 c
 refine ⟨by have:=Pi hi; have:=a.1; omega,?_,?_⟩
 ·obtain ⟨q,b⟩:=a.2.1
  cases x with
  | mk=>exact ⟨q - 1,MN (MO b).2 hi⟩
 ·have:=a.2.2
  cases x with
  | mk=>exact Jv this.2.2 hi
theorem UK {h:Nat} {x:Ex} (a:C9 h x):(x.ks.length:Int)=Cu x.op:=by
 obtain ⟨q,b⟩:=a.2.1
 cases x with
 | mk=>exact (MO b).1
theorem lu {h:Nat} {x:Ex} (a:C9 h x) (hop:x.op=18):∃ k0 k1 k2,x.ks=[k0,k1,k2]:=by
 have:=UK a
 rw [hop,show Cu 18=3 from rfl] at this
 match hk:x.ks,this with
 | [k0,k1,k2],_=>exact ⟨k0,k1,k2,rfl⟩
 | [],h=>simp at h
 | [_],h=>simp at h
 | [_,_],h=>simp at h
 | _ :: _ :: _ :: _ :: _,h=>simp at h; omega
theorem SI {h:Nat} {x:Ex} (a:C9 h x) (hop:x.op=12∨x.op=13):∃ k0 k1,x.ks=[k0,k1]:=by
 have:=UK a
 rw [show Cu x.op=2 by rcases hop with h | h <;> rw [h] <;> rfl] at this
 match hk:x.ks,this with
 | [k0,k1],_=>exact ⟨k0,k1,rfl⟩
 | [],h=>simp at h
 | [_],h=>simp at h
 | _ :: _ :: _ :: _,h=>simp at h; omega
theorem RI {f:Ex→Nat→List AK}:∀ (ks:List Ex) (n:Nat),(∀ k∈ks,∀ n,(f k n).length≤4 * nE k)→(Im f ks n).length≤4 * Gw ks
 | [],n,_=>by simp [Im]
 | k :: ks,n,h=>by
  rw [Im,Gw,List.length_append]
  have b:=h k (by simp) n
  have h2:=RI ks (n + (f k n).length) (fun k a=>h k (by simp [a]))
  omega
theorem OV (j ms i g:List (List UInt8×Int)):∀ (h:Nat) (x:Ex) (n:Nat),C9 h x→(Aa j ms i g h x n).length≤4 * nE x
 | 0,x,n,_=>Nat.zero_le _
 | h + 1,x,n,hx=>by
  have b:∀ k∈x.ks,∀ n,(Aa j ms i g h k n).length≤4 * nE k:=fun k o n=>OV j ms i g h k n (JT hx o)
  rw [Aa,PS]
  generalize Aa j ms i g h=f at b
  by_cases h18:x.op=18
  ·obtain ⟨a,d,m,c⟩:=lu hx h18
   rw [h18]
   show (C3 f x n).length≤_
   unfold C3
   rw [c] at b ⊢
   rw [h18]
   have a0:=b a (by simp) n
   have l:=b d (by simp) (n + (f a n).length + 1)
   have a2:=b m (by simp) (n + (f a n).length + 1 + (f d (n + (f a n).length + 1)).length + 1)
   show (f a n++[_]++f d (n + (f a n).length + 1)++[_]++f m (n + (f a n).length + 1 + (f d (n + (f a n).length + 1)).length + 1)).length≤_
   simp only [List.length_append,List.length_singleton,Gw]
   omega
  ·by_cases h12:x.op=12
   ·obtain ⟨a,d,c⟩:=SI hx (.inl h12)
    rw [h12]
    show (C3 f x n).length≤_
    unfold C3
    rw [c] at b ⊢
    rw [h12]
    have a0:=b a (by simp) n
    have l:=b d (by simp) (n + (f a n).length + 1)
    show (f a n++[_]++f d (n + (f a n).length + 1)++[_]++[AZ 0]).length≤_
    simp only [List.length_append,List.length_singleton,Gw]
    omega
   ·by_cases h13:x.op=13
    ·obtain ⟨a,d,c⟩:=SI hx (.inr h13)
     rw [h13]
     show (C3 f x n).length≤_
     unfold C3
     rw [c] at b ⊢
     rw [h13]
     have a0:=b a (by simp) n
     have l:=b d (by simp) (n + (f a n).length + 1 + [AZ 1].length + 1)
     show (f a n++[_]++[AZ 1]++[_]++f d (n + (f a n).length + 1 + [AZ 1].length + 1)).length≤_
     simp only [List.length_append,List.length_singleton,Gw] at l ⊢
     omega
    ·have e:(cond (x.op == 18) true (cond (x.op == 12) true (x.op == 13)))=false:=by
      rw [beq_eq_false_iff_ne.2 h18,beq_eq_false_iff_ne.2 h12,beq_eq_false_iff_ne.2 h13]
      rfl
     rw [e]
     show (Im f x.ks n++[_]).length≤_
     have:=RI x.ks n b
     rw [List.length_append,List.length_singleton]
     omega
theorem MI {f:Ex→Nat→List AK} {d ms c b:List (List UInt8×Int)} {x:Ex}:∀ (ks:List Ex) (a:List AK),EL f d ms c b x ks a=a++(Im f ks a.length++[As d ms c b x])
 | [],a=>by rw [EL,Im]; rfl
 | k :: ks,a=>by
  rw [EL,MI ks,Im]
  unfold AF
  rw [List.length_append]
  simp [List.append_assoc]
theorem ZY {c ms b a:List (List UInt8×Int)} {h:Nat} {l:List AK} {x:Ex}:FK (Aa c ms b a h) c ms b a l x=AF (Aa c ms b a (h + 1)) l x:=by
 unfold FK
 rw [MI]
 unfold AF
 rw [Aa]
 cases x.op == 18 <;> cases x.op == 12 <;> cases x.op == 13 <;> rfl
section
variable {p0aaA:Option Addr} {p0aan:Nat} {p0aac:Nat} {p0abA:Option Addr} {p0abn:Nat} {p0abc:Nat} {p0acA:Option Addr} {p0acn:Nat} {p0acc:Nat} {p0adA:Option Addr} {p0adn:Nat} {p0adc:Nat} {bi:Nat} {mi:List (List UInt8×Int)} {bs:Nat} {ms:List (List UInt8×Int)} {bp:Nat} {mp:List (List UInt8×Int)} {br:Nat} {mr:List (List UInt8×Int)} {w:World}
theorem ZV (t:AY.at BL bi mi w) (q:AY.at BL bs ms w) (s:AY.at BL bp mp w) (r:AY.at BL br mr w) {h:Nat} (a0:∀ (L:List Th) (j:Option Addr) (l:List AK) (i:Nat) (x:Ex) (f:Option Addr) (g:Nat) (p:World),rowsEx w f x.ks→C9 h x→l.length + 4 * nE x≤400000000→Below w.heap.size w p→AU w.heap.size p ([Cj j i l]++L)→Calls Tryz.prog 22 ([.agg ⟨[.slice p0aaA p0aan p0aac,.slice p0abA p0abn p0abc,.slice p0acA p0acn p0acc,.slice p0adA p0adn p0adc,.map (some bi),.map (some bs),.map (some bp),.map (some br)]⟩,.slice j l.length i,.agg ⟨CW x f g⟩]:List Value).toArray p fun e w'=>∃ (v:Option Addr) (u:Nat),e=.returned (.slice v (AF (Aa mi ms mp mr h) l x).length u)∧Below w.heap.size w w'∧AU w.heap.size w' ([Cj v u (AF (Aa mi ms mp mr h) l x)]++L)) {L:List Th} {j:Option Addr} {l:List AK} {i:Nat} {x:Ex} {f:Option Addr} {g:Nat} {p:World} (o:rowsEx w f x.ks) (hx:C9 (h + 1) x) (hop:(x.op == 18)=true∨(x.op == 12)=true∨(x.op == 13)=true) (hb:l.length + 4 * nE x≤400000000) (B:Below w.heap.size w p) (H:AU w.heap.size p ([Cj j i l]++L)):Calls Tryz.prog 54 ([.agg ⟨[.slice p0aaA p0aan p0aac,.slice p0abA p0abn p0abc,.slice p0acA p0acn p0acc,.slice p0adA p0adn p0adc,.map (some bi),.map (some bs),.map (some bp),.map (some br)]⟩,.slice j l.length i,.agg ⟨CW x f g⟩]:List Value).toArray p fun e w'=>∃ (v:Option Addr) (u:Nat),e=.returned (.slice v (AF (C3 (Aa mi ms mp mr h)) l x).length u)∧Below w.heap.size w w'∧AU w.heap.size w' ([Cj v u (AF (C3 (Aa mi ms mp mr h)) l x)]++L):=by
 have b0:∀ k n,C9 h k→(Aa mi ms mp mr h k n).length≤4 * nE k:=OV mi ms mp mr h
 rw [PS] at hb
 rcases hop with hop | hop | hop
 ·have c0:x.op=18:=eq_of_beq hop
  obtain ⟨z,y,k2,m⟩:=lu hx c0
  have hg:∀ k∈[z,y,k2],C9 h k:=fun k hk=>JT hx (by rw [m]; exact hk)
  rw [m] at o hb
  simp only [Gw] at hb
  have:=Uz (C9 h) L (Aa mi ms mp mr h) p0aaA p0aan p0aac p0abA p0abn p0abc p0acA p0acn p0acc p0adA p0adn p0adc bi mi bs ms bp mp br mr j l i x f z y k2 g w p t q s r o (fun L j l i x f g p a b c d e=>a0 L j l i x f g p a b c d e) hg b0 (by omega) B H
  rw [Vd _ l x z y k2 c0 m] at this
  rw [show CW x f g=[D 18,D x.num,D x.den,D x.mu,D x.hu,D x.du,.string ⟨⟨x.nm⟩⟩,D x.cnt,D x.md,.slice f 3 g] by unfold CW; rw [c0,m]; rfl]
  exact this
 ·have e0:x.op=12:=eq_of_beq hop
  obtain ⟨z,y,m⟩:=SI hx (.inl e0)
  have hg:∀ k∈[z,y],C9 h k:=fun k hk=>JT hx (by rw [m]; exact hk)
  rw [m] at o hb
  simp only [Gw] at hb
  have:=Rs (C9 h) L (Aa mi ms mp mr h) p0aaA p0aan p0aac p0abA p0abn p0abc p0acA p0acn p0acc p0adA p0adn p0adc bi mi bs ms bp mp br mr j l i x f z y g w p t q s r o (fun L j l i x f g p a b c d e=>a0 L j l i x f g p a b c d e) hg b0 (by omega) B H
  rw [U0 _ l x z y e0 m] at this
  rw [show CW x f g=[D 12,D x.num,D x.den,D x.mu,D x.hu,D x.du,.string ⟨⟨x.nm⟩⟩,D x.cnt,D x.md,.slice f 2 g] by unfold CW; rw [e0,m]; rfl]
  exact this
 ·have d0:x.op=13:=eq_of_beq hop
  obtain ⟨z,y,m⟩:=SI hx (.inr d0)
  have hg:∀ k∈[z,y],C9 h k:=fun k hk=>JT hx (by rw [m]; exact hk)
  rw [m] at o hb
  simp only [Gw] at hb
  have:=Uy (C9 h) L (Aa mi ms mp mr h) p0aaA p0aan p0aac p0abA p0abn p0abc p0acA p0acn p0acc p0adA p0adn p0adc bi mi bs ms bp mp br mr j l i x f z y g w p t q s r o (fun L j l i x f g p a b c d e=>a0 L j l i x f g p a b c d e) hg b0 (by omega) B H
  rw [Vc _ l x z y d0 m] at this
  rw [show CW x f g=[D 13,D x.num,D x.den,D x.mu,D x.hu,D x.du,.string ⟨⟨x.nm⟩⟩,D x.cnt,D x.md,.slice f 2 g] by unfold CW; rw [d0,m]; rfl]
  exact this
theorem Uf (p:AY.at BL bi mi w) (m:AY.at BL bs ms w) (o:AY.at BL bp mp w) (n:AY.at BL br mr w):∀ (h:Nat),∀ (L:List Th) (j:Option Addr) (l:List AK) (i:Nat) (x:Ex) (f:Option Addr) (g:Nat) (q:World),rowsEx w f x.ks→C9 h x→l.length + 4 * nE x≤400000000→Below w.heap.size w q→AU w.heap.size q ([Cj j i l]++L)→Calls Tryz.prog 22 ([.agg ⟨[.slice p0aaA p0aan p0aac,.slice p0abA p0abn p0abc,.slice p0acA p0acn p0acc,.slice p0adA p0adn p0adc,.map (some bi),.map (some bs),.map (some bp),.map (some br)]⟩,.slice j l.length i,.agg ⟨CW x f g⟩]:List Value).toArray q fun e w'=>∃ (s:Option Addr) (r:Nat),e=.returned (.slice s (AF (Aa mi ms mp mr h) l x).length r)∧Below w.heap.size w w'∧AU w.heap.size w' ([Cj s r (AF (Aa mi ms mp mr h) l x)]++L)
 | 0=>fun L j l i x f g q _ t=>by
  have:=t.1
  cases x with
  | mk=>rw [Ex.height] at this; omega
 | h + 1=>fun L j l i x f g q v t hb B H=>by
  have u:=Uf p m o n h
  have:=Ve (C9 h) L (Aa mi ms mp mr h) p0aaA p0aan p0aac p0abA p0abn p0abc p0acA p0acn p0acc p0adA p0adn p0adc bi mi bs ms bp mp br mr j l i x f g w q p m o n v (fun L j l i x f g q a b c d e=>u L j l i x f g q a b c d e)
   (fun L j l2 i x' f g q a y hop z B2 H2=>by subst y; exact ZV p m o n u a t hop z B2 H2) t.2.2 (fun k hk=>JT t hk) (OV mi ms mp mr h) hb B H
  rw [ZY] at this
  exact this
theorem dp (h:AY.at BL bi mi w) (d:AY.at BL bs ms w) (g:AY.at BL bp mp w) (f:AY.at BL br mr w) (x:Ex) (a:Option Addr) (b:Nat) (k:rowsEx w a x.ks) (l:C9 x.height x) (hb:4 * nE x≤400000000):Calls Tryz.prog 22 ([.agg ⟨[.slice p0aaA p0aan p0aac,.slice p0abA p0abn p0abc,.slice p0acA p0acn p0acc,.slice p0adA p0adn p0adc,.map (some bi),.map (some bs),.map (some bp),.map (some br)]⟩,.slice none 0 0,.agg ⟨CW x a b⟩]:List Value).toArray w fun e w'=>∃ (j:Option Addr) (i:Nat),e=.returned (.slice j (Aa mi ms mp mr x.height x 0).length i)∧Below w.heap.size w w'∧AU w.heap.size w' [Cj j i (Aa mi ms mp mr x.height x 0)]:=by
 have H:AU w.heap.size w ([Cj none 0 []]++[]):=(AU.nil (Nat.le_refl _)).addNil _ _ _
 have:=Uf (p0aaA:=p0aaA) (p0aan:=p0aan) (p0aac:=p0aac) (p0abA:=p0abA) (p0abn:=p0abn) (p0abc:=p0abc) (p0acA:=p0acA) (p0acn:=p0acn) (p0acc:=p0acc) (p0adA:=p0adA) (p0adn:=p0adn) (p0adc:=p0adc) h d g f x.height [] none [] 0 x a b w k l (by simpa using hb) (Below.refl _ _) H
 refine this.mono fun e w' m=>?_
 obtain ⟨A,c,o,h2,n⟩:=m
 exact ⟨A,c,o,h2,n⟩
end
end Go.Proofs.YtmcpjkcggfmcmaaGreatDoor

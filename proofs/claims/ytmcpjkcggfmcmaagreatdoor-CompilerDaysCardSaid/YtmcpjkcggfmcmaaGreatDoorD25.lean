/-
  Part 25 of a proof: contracts of functions.
-/
import Derived.Test.YtmcpjkcggfmcmaaGreatDoorD24
import Derived.Test.YtmcpjkcggfmcmaaGreatDoorD05
import Derived.Sort.OwnSortedInts
import Derived.Lib.RowBridge
set_option linter.all false
namespace Go.Proofs.YtmcpjkcggfmcmaaGreatDoor
noncomputable section
open Go.RowKit
set_option maxRecDepth 100000
set_option maxHeartbeats 1000000
attribute [local irreducible] BO CB AE AG AL Ay Aj AP Bc Cq Eb CT CO At Fr
mutual
def NE:Ex→List Ex
 | .mk op a b c d e nm cnt md ks=>cond (cond (op == 3) true (op == 4)) [.mk op a b c d e nm cnt md ks] []++HH ks
def HH:List Ex→List Ex
 | []=>[]
 | e :: es=>NE e++HH es
end
mutual
def nE:Ex→Nat
 | .mk _ _ _ _ _ _ _ _ _ ks=>1 + Gw ks
def Gw:List Ex→Nat
 | []=>0
 | e :: es=>nE e + Gw es
end
mutual
theorem T5:∀ e:Ex,(NE e).length≤nE e
 | .mk op a b c d e nm cnt md ks=>by
  rw [NE,nE,List.length_append]
  have h:=Q3 ks
  cases cond (op == 3) true (op == 4) <;> simp only [cond_true,cond_false,List.length_cons,List.length_nil] <;> omega
theorem Q3:∀ es:List Ex,(HH es).length≤Gw es
 | []=>Nat.le_refl _
 | e :: es=>by
  rw [HH,Gw,List.length_append]
  have a:=T5 e
  have h2:=Q3 es
  omega
end
theorem gc (x:Ex):NE x=cond (cond (x.op == 3) true (x.op == 4)) [x] []++HH x.ks:=by
 cases x with
 | mk=>rw [NE]; rfl
theorem PS (x:Ex):nE x=1 + Gw x.ks:=by
 cases x with
 | mk=>rw [nE]; rfl
theorem Pi {x e:Ex} {i:Nat} (h:x.ks[i]?=some e):e.height < x.height:=by
 cases x with
 | mk a1 a2 a3 a4 a5 a6 a7 a8 a9 ks=>
  have:=JL (show ks[i]?=some e from h)
  rw [Ex.height]
  omega
theorem Jz {α:Type} {l:List α} {i:Nat} {e:α} (h:l[i]?=some e):l.drop i=e :: l.drop (i + 1):=by
 have hl:i < l.length:=(List.getElem?_eq_some_iff.1 h).1
 rw [← List.getElem_cons_drop hl,(List.getElem?_eq_some_iff.1 h).2]
theorem UY {x:Ex} (h:Dq x):x.ks.length≤4294967296:=by
 cases x with
 | mk=>exact h.2.1
def BV (l:List Ex) (x:Ex):List Ex:=l++NE x
theorem Lh (l:List Ex) (x:Ex):(BV l x).length≤l.length + nE x:=by
 have:=T5 x
 unfold BV
 rw [List.length_append]
 omega
def FO:List (Ex)→List Ex→List Ex
 | [],a1_0=>a1_0
 | e1 :: tl,a1_0=>FO tl (BV a1_0 e1)
theorem T6 {a:List Ex}:FO [] a=(a):=by rw [FO]
theorem Ra {a:List Ex} {es:List (Ex)} (i:Nat) (b:Ex) (hi:es[i]?=some b):FO (es.drop i) a=(FO (es.drop (i + 1)) (BV a b)):=by
 have hl:i < es.length:=(List.getElem?_eq_some_iff.1 hi).1
 have he:es[i]=b:=(List.getElem?_eq_some_iff.1 hi).2
 rw [← List.getElem_cons_drop hl,FO] <;> (try rw [he])
def FP:List (Ex)→List Ex→List Ex
 | [],a0_0=>a0_0
 | e0 :: tl,a0_0=>FP tl (BV a0_0 e0)
theorem T7 {a:List Ex}:FP [] a=(a):=by rw [FP]
theorem Rb {a:List Ex} {es:List (Ex)} (i:Nat) (b:Ex) (hi:es[i]?=some b):FP (es.drop i) a=(FP (es.drop (i + 1)) (BV a b)):=by
 have hl:i < es.length:=(List.getElem?_eq_some_iff.1 hi).1
 have he:es[i]=b:=(List.getElem?_eq_some_iff.1 hi).2
 rw [← List.getElem_cons_drop hl,FP] <;> (try rw [he])
def IE (l:List Ex) (x:Ex):List Ex:=cond (cond (x.op == 3) (true) (x.op == 4)) (FP x.ks (l++[x])) (FO x.ks l)
noncomputable def dI:Code:=Tryz.f127.body.getD .skip
def ot:=Ad 1 ([.code dI])
def XC:=AB 60 (AP ot)
def fI:=AB (BA Bb 90 (AG XC)) (AG XC)
def fH:=AB 60 (AE fI)
def XB:=AB 60 (Ay fH)
def or:=AB (BA Ai 90 (AG XB)) (AG XB)
def vR:=AB 60 (AE (AE or))
def vQ:=AB 60 (AL XB)
def fG:=AB 60 (AL XC)
def XA:=AB 60 (Ay fG)
def jo:=AB (BA Ai 90 (AG XA)) (AG XA)
def sQ:=AB 60 (AE (AE jo))
def sP:=AB 60 (AL XA)
theorem bW (L:List Th) (t:Option Addr) (l:List Ex) (s:Nat) (x:Ex) (f:Option Addr) (a:Nat) (w we:World) (a1:rowsEx w f x.ks) (q1:Dq x) (r1:∀ (L:List Th) (t:Option Addr) (l:List Ex) (s:Nat) (x':Ex) (f:Option Addr) (a:Nat) (w we:World),rowsEx w f x'.ks→x'∈x.ks→l.length + nE x'≤100000000→Below w.heap.size w we→AU w.heap.size we ([Fe w t s l]++L)→Calls Tryz.prog 127 ([.slice t l.length s,.agg ⟨CW x' f a⟩]:List Value).toArray we fun e w'=>∃ (q0:Option Addr) (p0:Nat),e=.returned (.slice q0 (BV l x').length p0)∧Below w.heap.size w w'∧AU w.heap.size w' ([Fe w q0 p0 (BV l x')]++L)) (hb:l.length + nE x≤100000000) (B:Below w.heap.size w we) (H:AU w.heap.size we ([(Fe w t s l)]++L)):Calls Tryz.prog 127 ([.slice t l.length s,.agg ⟨[D x.op,D x.num,D x.den,D x.mu,D x.hu,D x.du,.string ⟨⟨x.nm⟩⟩,D x.cnt,D x.md,.slice f x.ks.length a]⟩]:List Value).toArray we fun e w'=>∃ (q0:Option Addr) (p0:Nat),e=.returned (.slice q0 ((IE l x).length) p0)∧Below w.heap.size w w'∧AU w.heap.size w' ([Fe w q0 p0 (IE l x)]++L):=by
 refine Af (fn:=Tryz.f127) (c:=dI) (n:=31) ?_
 have K1:Wk w we [] [(Fe w t s l)] L:=⟨B,H⟩
 clear B H
 have i3:=UY q1
 refine CR 1 ot [⟨we.heap.size,0,(CW x f a),32,true⟩] K1 [] fun w1 K2=>?_
 refine Ao K2 [(1,0,0),(5,0,0)] [] K2.G (fun sp k2=>by cases k2) fun w2 E2 K3=>?_
 refine AC XC K3 [] fun w3 K4=>?_
 refine AM (cond (x.op == 3) (true) (x.op == 4)) (fun c4=>?_) (fun c4=>?_)
 ·refine Cb Bb fI [⟨we.heap.size,0,(CW x f a),32,true⟩,⟨w3.heap.size,0,(CW x f a),32,true⟩] K4 [(0,0)] fun w5 K5=>?_
  refine Ch K5.H (K5.ix 0) (K5.at 0 rfl) x [D x.op,D x.num,D x.den,D x.mu,D x.hu,D x.du,.string ⟨⟨x.nm⟩⟩,D x.cnt,D x.md,.slice f x.ks.length a] (LN a1) (w3.heap.size) (K5.ent 1 (by kernel_rfl)) (DM fI) (by kernel_rfl) (.tmp 15) (.tmp 17) 30 (by kernel_rfl) (by kernel_rfl) (by kernel_rfl) (by decide) (by kernel_rfl) (by kernel_rfl) rfl rfl (by ((try simp only [maxLen,List.length_append,List.length_cons,List.length_nil,List.length_singleton]) <;> omega)) fun A6 c6 w6 Hn b6=>?_
  have K6:=K5.put 0 (by simp) b6 Hn
  refine AC fH K6 [(0,9)] fun w7 K7=>?_
  have K8:Wk w w7 [] [(Fe w A6 c6 (l++[x]))] L:=K7.pk [] [0]
  have z:(IE l x)=FP x.ks (l++[x]):=by unfold IE; rw [c4] <;> rfl
  refine BB [(0,.slice A6 ((l++[x]).length) c6),(4,.slice none 0 0),(20,.slice f x.ks.length a),(21,D ((x.ks.length:Int))),(22,D (((0:Nat):Int)))] fun E8=>?_
  refine Bi (by kernel_rfl) (fun E p1=>∃ (v:Nat) (d:List Ex) (p:Option Addr) (o:Nat) (E0:Nat→Value),v≤x.ks.length∧E=Aw E0 [(0,.slice p d.length o),(4,.slice none 0 0),(20,.slice f x.ks.length a),(21,D ((x.ks.length:Int))),(22,D ((v:Int)))]∧(IE l x)=FP (List.drop v x.ks) d∧d.length + Gw (List.drop v x.ks)≤100000000∧Wk w p1 [] [(Fe w p o d)] L) (fun E _=>x.ks.length - AQ (E 22)) ⟨0,(l++[x]),A6,c6,E8,Nat.zero_le _,rfl,z,by (rw [PS] at hb; simp only [List.drop_zero,List.length_append,List.length_singleton]; omega),K8⟩ ?_
  clear z
  rintro E p1 ⟨v,d,p,o,E0,l3,rfl,z,f1,K9⟩ z0
  refine AC XB K9 [] fun h3 b2=>?_
  refine AM (decide ((v:Int) < (x.ks.length:Int))) (fun h1=>?_) (fun h1=>?_)
  ·have v0:v < x.ks.length:=by have:=of_decide_eq_true h1; omega
   obtain ⟨r,x0⟩:∃ e,x.ks[v]?=some e:=⟨_,List.getElem?_eq_getElem v0⟩
   rw [Rb v r x0] at z
   obtain ⟨b0,c0,rfl,b1,c1⟩:=a1.all0 (by omega)
   obtain ⟨i,h,r0,a0⟩:=c1 v _ x0
   refine BG Ai or b2 [] fun i2 a2=>?_
   refine BH (g:=b0) (off:=c0) (cap:=a) (sz:=10) (k:=v) (len:=x.ks.length) (some 24) v0 Tryz.underlying30 ?_
   let z3:List Value:=[D r.op,D r.num,D r.den,D r.mu,D r.hu,D r.du,.string ⟨⟨r.nm⟩⟩,D r.cnt,D r.md,.slice i r.ks.length h]
   refine CC 32 b0 (c0 + v * 10) z3 (some 25) (Ac r0 b1 a2.B) ?_
   refine C8 vR [⟨i2.heap.size,0,(CW r i h),32,true⟩] a2 [(0,0),(0,0)] fun h2 z1=>?_
   have Kf:=(z1.pickL (L':=[(Fe w p o d)]++[]) [0] rfl (by decide)).front
   refine CJ (args:=[.slice p d.length o,.agg ⟨z3⟩]) (r1 _ p d o r i h w h2 a0 (List.mem_of_getElem? x0) (by rw [Jz x0] at f1; simp only [Gw] at f1; omega) z1.B Kf) fun en g3 hh=>?_
   obtain ⟨k0,f0,rfl,m2,Hn⟩:=hh
   refine ⟨_,rfl,?_⟩
   have y2:=Wk.unfront m2 Hn
   refine AC (Aj fH) y2 [] fun g2 x2=>?_
   refine BB [(0,.slice k0 ((BV d r).length) f0),(4,.slice none 0 0),(20,.slice (some ⟨b0,c0,none⟩) x.ks.length a),(21,D ((x.ks.length:Int))),(22,D (IntKind.i64.wrap ((v:Int) + 1)))] fun b3=>?_
   have v2:Wk w g2 [] [(Fe w k0 f0 (BV d r))] L:=x2.pk [] [0]
   rw [Bs v (by omega)]
   refine z0 _ _ ⟨v + 1,(BV d r),k0,f0,b3,v0,rfl,by rw [z] <;> rfl,by (rw [Jz x0] at f1; simp only [Gw] at f1; have:=Lh d r; omega),v2⟩ ?_
   show x.ks.length - AQ (D ((v + 1:Nat):Int)) < x.ks.length - AQ (D (v:Int))
   simp only [AQ]
   omega
  ·have t1:v=x.ks.length:=by have:=of_decide_eq_false h1; omega
   rw [t1,List.drop_length,T7] at z
   refine AC vQ b2 [] fun f3 m1=>?_
   have hS:(IE l x)=d:=by rw [z] <;> rfl
   exact Ab m1 (0,0) (.slice p d.length o) ⟨p,o,by rw [hS] <;> rfl,m1.B,by rw [hS]; exact m1.own [0] rfl (by decide)⟩
 ·refine AC fG K4 [(0,9)] fun f2 u2=>?_
  have t2:Wk w f2 [] [(Fe w t s l)] L:=u2.pk [] [0]
  have y:(IE l x)=FO x.ks l:=by unfold IE; rw [c4] <;> rfl
  refine BB [(0,.slice t l.length s),(4,.slice none 0 0),(20,.slice f x.ks.length a),(21,D ((x.ks.length:Int))),(22,D (((0:Nat):Int)))] fun a3=>?_
  refine Bi (by kernel_rfl) (fun E n1=>∃ (u:Nat) (b:List Ex) (m:Option Addr) (j:Nat) (E0:Nat→Value),u≤x.ks.length∧E=Aw E0 [(0,.slice m b.length j),(4,.slice none 0 0),(20,.slice f x.ks.length a),(21,D ((x.ks.length:Int))),(22,D ((u:Int)))]∧(IE l x)=FO (List.drop u x.ks) b∧b.length + Gw (List.drop u x.ks)≤100000000∧Wk w n1 [] [(Fe w m j b)] L) (fun E _=>x.ks.length - AQ (E 22)) ⟨0,l,t,s,a3,Nat.zero_le _,rfl,y,by (rw [PS] at hb; simp only [List.drop_zero,List.length_append,List.length_singleton]; omega),t2⟩ ?_
  clear y
  rintro E n1 ⟨u,b,m,j,E0,k3,rfl,y,d1,s2⟩ y0
  refine AC XA s2 [] fun e3 y1=>?_
  refine AM (decide ((u:Int) < (x.ks.length:Int))) (fun g1=>?_) (fun g1=>?_)
  ·have t0:u < x.ks.length:=by have:=of_decide_eq_true g1; omega
   obtain ⟨q,w0⟩:∃ e,x.ks[u]?=some e:=⟨_,List.getElem?_eq_getElem t0⟩
   rw [Ra u q w0] at y
   obtain ⟨b0,c0,rfl,b1,c1⟩:=a1.all0 (by omega)
   obtain ⟨i,h,r0,a0⟩:=c1 u _ w0
   refine BG Ai jo y1 [] fun e2 x1=>?_
   refine BH (g:=b0) (off:=c0) (cap:=a) (sz:=10) (k:=u) (len:=x.ks.length) (some 24) t0 Tryz.underlying30 ?_
   let z4:List Value:=[D q.op,D q.num,D q.den,D q.mu,D q.hu,D q.du,.string ⟨⟨q.nm⟩⟩,D q.cnt,D q.md,.slice i q.ks.length h]
   refine CC 32 b0 (c0 + u * 10) z4 (some 25) (Ac r0 b1 x1.B) ?_
   refine C8 sQ [⟨e2.heap.size,0,(CW q i h),32,true⟩] x1 [(0,0),(0,0)] fun d2 v1=>?_
   have Kf:=(v1.pickL (L':=[(Fe w m j b)]++[]) [0] rfl (by decide)).front
   refine CJ (args:=[.slice m b.length j,.agg ⟨z4⟩]) (r1 _ m b j q i h w d2 a0 (List.mem_of_getElem? w0) (by rw [Jz w0] at d1; simp only [Gw] at d1; omega) v1.B Kf) fun en d3 hh=>?_
   obtain ⟨h0,d0,rfl,l2,Hn⟩:=hh
   refine ⟨_,rfl,?_⟩
   have r2:=Wk.unfront l2 Hn
   refine AC (Aj fG) r2 [] fun c2 q2=>?_
   refine BB [(0,.slice h0 ((BV b q).length) d0),(4,.slice none 0 0),(20,.slice (some ⟨b0,c0,none⟩) x.ks.length a),(21,D ((x.ks.length:Int))),(22,D (IntKind.i64.wrap ((u:Int) + 1)))] fun z2=>?_
   have p2:Wk w c2 [] [(Fe w h0 d0 (BV b q))] L:=q2.pk [] [0]
   rw [Bs u (by omega)]
   refine y0 _ _ ⟨u + 1,(BV b q),h0,d0,z2,t0,rfl,by rw [y] <;> rfl,by (rw [Jz w0] at d1; simp only [Gw] at d1; have:=Lh b q; omega),p2⟩ ?_
   show x.ks.length - AQ (D ((u + 1:Nat):Int)) < x.ks.length - AQ (D (u:Int))
   simp only [AQ]
   omega
  ·have s1:u=x.ks.length:=by have:=of_decide_eq_false g1; omega
   rw [s1,List.drop_length,T6] at y
   refine AC sP y1 [] fun c3 k1=>?_
   have hS:(IE l x)=b:=by rw [y] <;> rfl
   exact Ab k1 (0,0) (.slice m b.length j) ⟨m,j,by rw [hS] <;> rfl,k1.B,by rw [hS]; exact k1.own [0] rfl (by decide)⟩
def ir (n:Nat):Prop:=∀ (L:List Th) (p0A:Option Addr) (l:List Ex) (p0c:Nat) (x:Ex) (p1A0:Option Addr) (p1c0:Nat) (w we:World),rowsEx w p1A0 x.ks→x.height≤n→Dq x→l.length + nE x≤100000000→Below w.heap.size w we→AU w.heap.size we ([Fe w p0A p0c l]++L)→Calls Tryz.prog 127 ([.slice p0A l.length p0c,.agg ⟨CW x p1A0 p1c0⟩]:List Value).toArray we fun e w'=>∃ (rA0:Option Addr) (rc0:Nat),e=.returned (.slice rA0 (BV l x).length rc0)∧Below w.heap.size w w'∧AU w.heap.size w' ([Fe w rA0 rc0 (BV l x)]++L)
theorem Q2 {x:Ex}:∀ (ks a:List Ex),FP ks a=a++HH ks
 | [],a=>by rw [FP,HH,List.append_nil]
 | e :: es,a=>by rw [FP,HH,Q2 (x:=x) es,BV,List.append_assoc]
theorem PM {x:Ex}:∀ (ks a:List Ex),FO ks a=a++HH ks
 | [],a=>by rw [FO,HH,List.append_nil]
 | e :: es,a=>by rw [FO,HH,PM (x:=x) es,BV,List.append_assoc]
theorem ge (l:List Ex) (x:Ex):IE l x=BV l x:=by
 unfold IE
 rw [Q2 (x:=x),PM (x:=x),BV,gc]
 cases cond (x.op == 3) true (x.op == 4) <;> simp
theorem T4:∀ (n:Nat),ir n
 | 0=>fun L e l d x b a w h c g=>by
  cases x with
  | mk=>rw [Ex.height] at g; omega
 | n + 1=>fun L e l d x b a w h c g f hb B H=>by
  have:=bW L e l d x b a w h c f (fun L e l d j b a w h c hm hb B H=>T4 n L e l d j b a w h c ?_ ?_ hb B H) hb B H
  ·rwa [ge] at this
  ·obtain ⟨i,hi⟩:=List.mem_iff_getElem?.1 hm
   have:=Pi hi
   omega
  ·obtain ⟨i,hi⟩:=List.mem_iff_getElem?.1 hm
   cases x with
   | mk=>exact Jv f.2.2 hi
end
end Go.Proofs.YtmcpjkcggfmcmaaGreatDoor
namespace Go.Proofs.YtmcpjkcggfmcmaaGreatDoor
end Go.Proofs.YtmcpjkcggfmcmaaGreatDoor
namespace Go.Proofs.YtmcpjkcggfmcmaaGreatDoor
noncomputable section
open Go.RowKit
set_option maxRecDepth 100000
set_option maxHeartbeats 1000000
attribute [local irreducible] BO CB AE AG AL Ay Aj AP Bc Cq Eb CT CO At Fr
theorem ZU {f:FuncId} {args:Array Value} {w:World} {v:Value} (h:Calls Tryz.prog f args w fun e w'=>e=.returned v∧w'=w):Calls Tryz.prog f args w fun e w'=>e=.returned v∧Below w.heap.size w w':=
 h.mono fun _ _ a=>⟨a.1,QD a.2.symm⟩
def U2:Int:=0
noncomputable def Ur:Code:=Tryz.f159.body.getD .skip
def gS:List Item:=(CV (fun _=>false) 400 [false] ([.code Ur])).2
def wb:List Item:=(CV (fun _=>false) 400 [] (AE gS)).2
theorem U1 (w:World):Calls Tryz.prog 159 ([.int .u64 0]:List Value).toArray w fun e w'=>e=.returned (D (U2))∧Below w.heap.size w w':=by
 refine Af (fn:=Tryz.f159) (c:=Ur) (n:=8) ?_
 have g:=Wk.start w
 refine CH (CV (fun _=>false) 400 [false] ([.code Ur])).1 [] gS g fun a f=>?_
 refine Ap f (ZU (Tryz.bits_Len64 0 a (by decide) (by decide))) fun i d=>?_
 refine CH (CV (fun _=>false) 400 [] (AE gS)).1 [] wb d fun h b=>?_
 exact AO b (0,0) (D 0) (by unfold U2; rfl)
def cM:Unit:=()
noncomputable def Um:Code:=Tryz.f176.body.getD .skip
def vp:List Item:=(CV (fun _=>false) 400 [false] ([.code Um])).2
theorem ZC (w:World):Calls Tryz.prog 176 ([.slice none 0 0,D 0,D 0]:List Value).toArray w fun e w'=>e=.returned (.tuple #[])∧Below w.heap.size w w':=by
 refine Af (fn:=Tryz.f176) (c:=Um) (n:=49) ?_
 have b:=Wk.start w
 refine CH (CV (fun _=>false) 400 [false] ([.code Um])).1 [] vp b fun d a=>?_
 have f:(cM)=():=by unfold cM; rfl
 exact Ab a (0,0) (.tuple #[]) ⟨rfl,a.B⟩
def bd:Unit:=()
noncomputable def Uj:Code:=Tryz.f158.body.getD .skip
def fJ:List Item:=(CV (fun _=>false) 400 [true] ([.code Uj])).2
def vS:List Item:=(CV (fun _=>false) 400 [] (AE fJ)).2
theorem Y5 (w:World):Calls Tryz.prog 158 ([.slice none 0 0,D 0,D 0,D 0]:List Value).toArray w fun e w'=>e=.returned (.tuple #[])∧Below w.heap.size w w':=by
 refine Af (fn:=Tryz.f158) (c:=Uj) (n:=134) ?_
 have g:=Wk.start w
 refine CH (CV (fun _=>false) 400 [true] ([.code Uj])).1 [] fJ g fun b f=>?_
 refine Ap f (ZC b) fun i d=>?_
 refine CH (CV (fun _=>false) 400 [] (AE fJ)).1 [] vS d fun h a=>?_
 have j:(bd)=():=by unfold bd; rfl
 exact Ab a (0,0) (.tuple #[]) ⟨rfl,a.B⟩
def Vk:Unit:=()
noncomputable def Uh:Code:=Tryz.f129.body.getD .skip
def eu:List Item:=(CV (fun _=>false) 400 [] ([.code Uh])).2
def et:List Item:=(CV (fun _=>false) 400 [] (AE eu)).2
def vK:List Item:=(CV (fun _=>false) 400 [] (AE et)).2
theorem VG (w:World):Calls Tryz.prog 129 ([.slice none 0 0]:List Value).toArray w fun e w'=>e=.returned (.tuple #[])∧Below w.heap.size w w':=by
 refine Af (fn:=Tryz.f129) (c:=Uh) (n:=11) ?_
 have j:=Wk.start w
 refine CH (CV (fun _=>false) 400 [] ([.code Uh])).1 [] eu j fun d i=>?_
 refine Ap i (U1 d) fun m h=>?_
 refine CH (CV (fun _=>false) 400 [] (AE eu)).1 [] et h fun b g=>?_
 refine Ap g (Y5 b) fun l f=>?_
 refine CH (CV (fun _=>false) 400 [] (AE et)).1 [] vK f fun k a=>?_
 have o:(Vk)=():=by unfold Vk; rfl
 exact Ab a (0,0) (.tuple #[]) ⟨rfl,a.B⟩
set_option maxHeartbeats 400000
def DJ (l:List Nat):List Int:=l.map Int.ofNat
def GH (l:List Nat):List Nat:=((DJ l).mergeSort fun x y=>decide (x≤y)).map Int.toNat
def Ew (l:List Nat):List Nat:=(Lib.compact (DJ l)).map Int.toNat
theorem RD {a:List Int} (h:∀ z∈a,0≤z):DJ (a.map Int.toNat)=a:=by
 unfold DJ
 rw [List.map_map]
 refine (List.map_congr_left fun z hz=>?_).trans (List.map_id _)
 have:=h z hz
 simp only [Function.comp_apply,id_eq]
 exact Int.toNat_of_nonneg this
theorem Mr {l:List Nat}:∀ z∈DJ l,0≤z:=fun z hz=>by
 obtain ⟨n,_,rfl⟩:=List.mem_map.1 hz
 exact Int.natCast_nonneg n
theorem bJ:GH []=[]:=by unfold GH DJ; simp
theorem KT (l:List Nat):(GH l).length=l.length:=by
 unfold GH DJ
 rw [List.length_map,List.length_mergeSort,List.length_map]
theorem Yw (l:List Nat):DJ (GH l)=(DJ l).mergeSort fun x y=>decide (x≤y):=RD fun z hz=>Mr z (List.mem_mergeSort.1 hz)
theorem bK {l:List Nat} {n:Nat}:n∈GH l↔n∈l:=by
 unfold GH DJ
 constructor
 ·intro h
  obtain ⟨z,hz,rfl⟩:=List.mem_map.1 h
  obtain ⟨m,hm,rfl⟩:=List.mem_map.1 (List.mem_mergeSort.1 hz)
  exact hm
 ·intro h
  exact List.mem_map.2 ⟨Int.ofNat n,List.mem_mergeSort.2 (List.mem_map.2 ⟨n,h,rfl⟩),rfl⟩
theorem Nz {a:List Int} {z:Int} (h:z∈Lib.compact a):z∈a:=by
 unfold Lib.compact Lib.compactUpTo at h
 obtain ⟨i,hi,rfl⟩:=List.mem_map.1 h
 have hl:i < a.length:=List.mem_range.1 (List.mem_filter.1 hi).1
 rw [getElem!_pos _ i (by simpa using hl)]
 simp
theorem Rn (l:List Nat):DJ (Ew l)=Lib.compact (DJ l):=RD fun z hz=>Mr z (Nz hz)
theorem Ue {l:List Nat} {n:Nat} (h:n∈Ew l):n∈l:=by
 obtain ⟨z,hz,rfl⟩:=List.mem_map.1 h
 obtain ⟨m,hm,rfl⟩:=List.mem_map.1 (Nz hz)
 exact hm
theorem Mz (l:List Nat):(Ew l).length≤l.length:=by
 unfold Ew
 rw [List.length_map]
 exact Nat.le_trans (Lib.compact_length_le _) (by unfold DJ; rw [List.length_map]; exact Nat.le_refl _)
theorem Kk (l:List Nat):(l.map Fs).flatten=(DJ l).map (Value.int .i64):=by
 induction l with
 | nil=>rfl
 | cons n l ih=>rw [List.map_cons,List.flatten_cons,ih]; rfl
section
variable {b:Nat} {w we:World} {L:List Th} {g c:Nat} {l:List Nat}
theorem J9 (H:AU b we ([BP (some ⟨g,0,none⟩) c l]++L)):∃ a,we.heap[g]?=some (.cells a 3 (0,0))∧l.length≤c∧c≤maxLen∧a.size=c * 1∧a.toList.take l.length=(DJ l).map (Value.int .i64):=by
 obtain ⟨rs,hr,ho⟩:(BP (some ⟨g,0,none⟩) c l).P we:=H.all 0 _ rfl
 rcases ho.2 with ⟨d,_⟩ | ⟨e,cap,a,d,_,hg,hc,hm,hs,ht⟩
 ·cases d
 ·cases d
  rw [Lg hr,Kk,Nat.mul_one] at ht
  exact ⟨a,hg,hc,hm,hs,ht⟩
theorem PR (H:AU b we ([BP (some ⟨g,0,none⟩) c l]++L)) {n:Nat} {os:Array Obj} {ts:List Int} (hl:ts.length=l.length) (d:List Nat) (m:ts.take d.length=DJ d) (i:d.length≤l.length) :
  Below b we (Go.Sort.grow (Go.Sort.putRow (Value.int .i64) (Go.Sort.ahead we n) g 0 ts.toArray) os)∧AU b (Go.Sort.grow (Go.Sort.putRow (Value.int .i64) (Go.Sort.ahead we n) g 0 ts.toArray) os) ([BP (some ⟨g,0,none⟩) c d]++L):=by
 obtain ⟨j,hb,p,h2,o,t⟩:=J9 H
 have hg:=grownBy_sortedI (w:=we) (g:=g) (n:=n) (os:=os) ts.toArray
 have h:=H.lo 0 _ rfl g rfl
 refine ⟨⟨hg.os,hg.tape,hg.output,hg.size,fun k f=>hg.block k (Nat.lt_of_lt_of_le f H.base) fun he=>by have:=Option.some.inj he; omega⟩,?_⟩
 refine H.set 0 (s:=BP (some ⟨g,0,none⟩) c l) rfl hg.size ⟨d.map Fs,?_,?_,?_⟩ (fun k f=>⟨?_,.inl f⟩) (fun k f hf=>hg.block k f fun he=>hf (by obtain rfl:=Option.some.inj he; rfl))
 ·have:∀ q:List Nat,Dm (fun e r=>r=Fs e) q (q.map Fs):=fun q=>by
   induction q with
   | nil=>trivial
   | cons a q ih=>exact ⟨rfl,ih⟩
  exact this d
 ·rw [Kk]; unfold DJ; simp
 ·refine .inr ⟨g,c,_,rfl,Nat.zero_le _,heap_sortedI _ hb,Nat.le_trans i p,h2,by simp [Go.Sort.putCells,o],?_⟩
  rw [Nat.mul_one,Kk,← m,List.map_take,← take_putCellsI j ts (by omega),List.take_take,Nat.min_eq_left (by omega)]
 ·obtain rfl:g=k:=by have:=Option.some.inj f; injection this
  exact Nat.lt_of_lt_of_le h.2 hg.size
theorem gU (L:List Th) (c:Option Addr) (l:List Nat) (a:Nat) (w d:World) (k:l.length≤4294967296) (B:Below w.heap.size w d) (H:AU w.heap.size d ([BP c a l]++L)):Calls Tryz.prog 129 ([.slice c l.length a]:List Value).toArray d fun e w'=>e=.returned (.tuple #[])∧Below w.heap.size w w'∧AU w.heap.size w' ([BP c a (GH l)]++L):=by
 obtain ⟨rs,hr,ho⟩:(BP c a l).P d:=H.all 0 _ rfl
 rcases ho.2 with ⟨f,p⟩ | ⟨g,cap,i,f,_⟩
 ·obtain rfl:l=[]:=List.eq_nil_of_length_eq_zero p
  obtain ⟨rfl,rfl⟩:c=none∧a=0:=by injection f with e1 e2 e3; exact ⟨e1,e3⟩
  refine (VG d).mono fun e w' h=>?_
  obtain ⟨rfl,b⟩:=h
  exact ⟨rfl,B.trans (b.mono B.size),by rw [bJ]; exact H.below b⟩
 ·obtain ⟨rfl,rfl⟩:c=some ⟨g,0,none⟩∧a=cap:=by injection f with e1 e2 e3; exact ⟨e1,e3⟩
  obtain ⟨i,hb,f,h2,q,o⟩:=J9 H
  have m:=holds_of_blockI (ss:=DJ l) hb (by unfold DJ at *; rw [List.length_map]; exact o)
  have:=Tryz.slices_Sort_int g 0 a (DJ l) d m (Ak hb) (by unfold DJ; rw [List.length_map]; omega)
  rw [show (DJ l).length=l.length by unfold DJ; rw [List.length_map]] at this
  refine this.mono fun e w' h=>?_
  obtain ⟨rfl,n,os,rfl⟩:=h
  have j:=PR H (n:=n) (os:=os) (ts:=(DJ l).mergeSort fun x y=>decide (x≤y)) (by unfold DJ; rw [List.length_mergeSort,List.length_map]) (GH l) (by rw [← Yw]; exact List.take_of_length_le (by unfold DJ; rw [List.length_map]; exact Nat.le_refl _)) (by rw [KT]; exact Nat.le_refl _)
  exact ⟨rfl,B.trans j.1,j.2⟩
theorem VZ (L:List Th) (b:Option Addr) (l:List Nat) (a:Nat) (w c:World) {m:Nat} (r:l.length≤4294967296) (hm:l.length=m) (B:Below w.heap.size w c) (H:AU w.heap.size c ([BP b a l]++L)):Calls Tryz.prog 130 ([.slice b m a]:List Value).toArray c fun e w'=>∃ (f:Option Addr) (d:Nat),e=.returned (.slice f (Ew l).length d)∧Below w.heap.size w w'∧AU w.heap.size w' ([BP f d (Ew l)]++L):=by
 subst hm
 obtain ⟨rs,hr,ho⟩:(BP b a l).P c:=H.all 0 _ rfl
 rcases ho.2 with ⟨j,v⟩ | ⟨g,cap,p,j,_⟩
 ·obtain rfl:l=[]:=List.eq_nil_of_length_eq_zero v
  obtain ⟨rfl,rfl⟩:b=none∧a=0:=by injection j with e1 e2 e3; exact ⟨e1,e3⟩
  refine (Tryz.slices_Compact_int_empty none 0 c).mono fun e w' o=>?_
  obtain ⟨rfl,rfl⟩:=o
  exact ⟨none,0,rfl,B,H⟩
 ·obtain ⟨rfl,rfl⟩:b=some ⟨g,0,none⟩∧a=cap:=by injection j with e1 e2 e3; exact ⟨e1,e3⟩
  obtain ⟨p,hb,j,h2,x,u⟩:=J9 H
  have h:(DJ l).length=l.length:=by unfold DJ; rw [List.length_map]
  have t:=holds_of_blockI (ss:=DJ l) hb (by rw [h]; exact u)
  have:=Tryz.slices_Compact_int g 0 a (DJ l) c t (by omega) (by omega)
  rw [h] at this
  refine this.mono fun e w' o=>?_
  obtain ⟨rfl,q,rfl⟩:=o
  have s:=Lib.compact_length_le (DJ l)
  have i:(Ew l).length=(Lib.compact (DJ l)).length:=by unfold Ew; rw [List.length_map]
  have k:=PR H (n:=q) (os:=#[]) (ts:=Lib.compact (DJ l)++List.replicate (l.length - (Lib.compact (DJ l)).length) 0) (by rw [List.length_append,List.length_replicate]; omega) (Ew l) (by rw [Rn,i,List.take_left]) (Mz l)
  rw [Go.Sort.grow_empty] at k
  exact ⟨some ⟨g,0,none⟩,a,by rw [i],B.trans k.1,k.2⟩
end
end
end Go.Proofs.YtmcpjkcggfmcmaaGreatDoor

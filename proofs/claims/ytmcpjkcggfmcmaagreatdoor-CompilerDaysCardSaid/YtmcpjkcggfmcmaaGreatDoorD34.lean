/-
  Part 34 of a proof: contracts of functions.
-/
import Derived.Test.YtmcpjkcggfmcmaaGreatDoorD33
set_option linter.all false
namespace Go.Proofs.YtmcpjkcggfmcmaaGreatDoor
open Go.RowKit
set_option maxRecDepth 100000
set_option maxHeartbeats 600000
abbrev MK:=Nat×List Nat×Option Addr×Nat
abbrev KZ (x:MK):Nat×uP:=(x.1,x.2.2.1,x.2.1.length,x.2.2.2)
abbrev cQ (x:MK):Th:=BP x.2.2.1 x.2.2.2 x.2.1
abbrev Ix (x:MK):Nat×List Nat:=(x.1,x.2.1)
abbrev Hg (xs:List MK):Th:=Th.all (xs.map cQ)
theorem AU.rowSpot {α:Type} {b:Nat} {w:World} {L:List Th} {T:TypeId} {n:Nat} {d:α→List Value→Prop} {A:Option Addr} {c:Nat} {l:List α} (h:AU b w L) (i:Nat) (hi:L[i]?=some (Th.row T n d A c l)):∀ a,A=some a→a.spot=none:=by
 obtain ⟨rs,hr,ho⟩:(Th.row T n d A c l).P w:=h.all i _ hi
 intro a ha
 rcases ho.2 with ⟨e,j⟩ | ⟨g,cap,f,e,_⟩
 ·injection e with e1
  rw [e1] at ha
  cases ha
 ·injection e with e1
  rw [e1] at ha
  injection ha with ha
  rw [← ha]
theorem mh {w:World} {xs:List MK} (hf:(Hg xs).P w) (i:Nat):∃ A c,(CA (xs.map KZ) i).getD (none,0,0)=(A,((CA (xs.map Ix) i).getD []).length,c)∧rowsNat w A ((CA (xs.map Ix) i).getD []):=by
 induction xs with
 | nil=>exact ⟨none,0,rfl,.inl rfl⟩
 | cons x xs ih=>
  rw [List.map_cons,List.map_cons,CA,CA]
  by_cases hx:x.1=i
  ·rw [if_pos hx,if_pos hx]
   have d:(cQ x).P w:=hf _ (by simp)
   have H:AU 0 w [cQ x]:=⟨Nat.zero_le _,fun j t ht=>by
     cases j with
     | zero=>obtain rfl:=Option.some.inj ht; exact d
     | succ j=>simp at ht,fun j t ht k e=>by
     cases j with
     | zero=>
      obtain rfl:=Option.some.inj ht
      obtain ⟨rs,hr,ho⟩:=d
      have a:x.2.2.1=some ⟨k,0,none⟩:=e
      exact ⟨Nat.zero_le _,(DC ho (g:=k) (by rw [a]; rfl)).2⟩
     | succ j=>simp at ht,fun j k s t hs ht b=>by
     cases j with
     | zero=>cases k with
      | zero=>exact absurd rfl b
      | succ k=>simp at ht
     | succ j=>simp at hs⟩
   exact ⟨x.2.2.1,x.2.2.2,rfl,H.rowsNat 0 rfl⟩
  ·rw [if_neg hx,if_neg hx]
   exact ih fun u hu=>hf u (by simp at hu ⊢; exact .inr hu)
end Go.Proofs.YtmcpjkcggfmcmaaGreatDoor
namespace Go.Proofs.YtmcpjkcggfmcmaaGreatDoor
noncomputable section
open Go.RowKit
set_option maxRecDepth 100000
set_option maxHeartbeats 1000000
attribute [local irreducible] BO CB AE AG AL Ay Aj AP Bc Cq Eb CT CO At Fr
def Bj (ds:List (Df)) (p1:Int):List (Nat)→Int→List Nat→List (Nat×List Nat)→List Nat×List (Nat×List Nat)×Int
 | [],a0_0,a0_1,a0_2=>(a0_1,a0_2,0)
 | e0 :: tl,a0_0,a0_1,a0_2=>cond (!(Bp (ds.getD e0 default))) (Bj ds p1 tl a0_0 a0_1 a0_2) (cond (!(((DS ds (BC ds p1) e0)).2 == 0)) (([],[],((DS ds (BC ds p1) e0)).2)) (Bj ds p1 tl a0_0 (a0_1++[e0]) ((e0,((DS ds (BC ds p1) e0)).1) :: a0_2)))
theorem OE {ds:List (Df)} {p1:Int} {c:Int} {b:List Nat} {a:List (Nat×List Nat)}:Bj ds p1 [] c b a=((b,a,0)):=by rw [Bj]
theorem NU {ds:List (Df)} {p1:Int} {c:Int} {b:List Nat} {a:List (Nat×List Nat)} {es:List (Nat)} (i d:Nat) (hi:es[i]?=some d):Bj ds p1 (es.drop i) c b a=(cond (!(Bp (ds.getD d default))) (Bj ds p1 (es.drop (i + 1)) c b a) (cond (!(((DS ds (BC ds p1) d)).2 == 0)) (([],[],((DS ds (BC ds p1) d)).2)) (Bj ds p1 (es.drop (i + 1)) c (b++[d]) ((d,((DS ds (BC ds p1) d)).1) :: a)))):=by
 have hl:i < es.length:=(List.getElem?_eq_some_iff.1 hi).1
 have he:es[i]=d:=(List.getElem?_eq_some_iff.1 hi).2
 rw [← List.getElem_cons_drop hl,Bj] <;> (try rw [he])
def BT (p0a:List UInt8) (ds:List (Df)) (p1:Int):List Nat×List (Nat×List Nat)×Int:=cond (!(EF p0a ds p1 == 0)) (([],[],EF p0a ds p1)) (Bj ds p1 (BC ds p1) 0 ([]) ([]))
noncomputable def dJ:Code:=Tryz.f50.body.getD .skip
def o0:=AB 60 ([.code dJ])
def XR:=AB 60 (AE o0)
def vT:=AB 60 (AG XR)
def fP:=AB (BA II 90 (AL XR)) (AL XR)
def oz:=AB 60 (AE fP)
def XQ:=AB 60 (AE oz)
def XP:=AB 60 (Ay XQ)
def fO:=AB (BA Ai 90 (AG XP)) (AG XP)
def oy:=AB (BA Ai 90 (AE (AE fO))) (AE (AE fO))
def ow:=AB 60 (AE (AE oy))
def jz:=AB 60 (AE ow)
def jy:=AB 60 (AL jz)
def R3:=AB 60 (AE jy)
def sU:=AB 60 (AG R3)
def R2:=AB (BA Bb 90 (AL R3)) (AL R3)
def jx:=AB (BA PZ 90 (AE R2)) (AE R2)
def sT:=AB 60 (AL XP)
theorem UD (a:List UInt8) (u:Option Addr) (ds:List (Df)) (m:Nat) (p1:Int) (w:World) (t0:rowsDf w u ds) (k1:ds.length≤4294967296) (hs:a.length≤4294967296) (ht:∀ d∈ds,IJ d) (a2:∀ d∈ds,Dq d.body) (hn:∀ d∈ds,nE d.body≤1000000):Calls Tryz.prog 50 ([.agg ⟨[.string ⟨⟨a⟩⟩,.slice u ds.length m]⟩,D p1]:List Value).toArray w fun e w'=>(∃ (y1:Option Addr) (v1 x1:Nat) (i1:List MK),e=.returned (.tuple #[.agg ⟨[.slice y1 ((((BT a ds p1)).1).length) v1,.map (some x1)]⟩,D (((BT a ds p1)).2.2)])∧i1.map Ix=((BT a ds p1)).2.1∧Below w.heap.size w w'∧((BT a ds p1)).2.2=0∧AU w.heap.size w' [BP y1 v1 (((BT a ds p1)).1),AY.th KD x1 (i1.map KZ),Hg i1])∨(e=.returned (.tuple #[.agg ⟨[.slice none 0 0,.map none]⟩,D (((BT a ds p1)).2.2)])∧¬ ((BT a ds p1)).2.2=0∧Below w.heap.size w w'):=by
 refine Af (fn:=Tryz.f50) (c:=dJ) (n:=61) ?_
 have K1:=Wk.start w
 let z5:List Value:=[.string ⟨⟨a⟩⟩,.slice u ds.length m]
 refine C8 o0 [⟨w.heap.size,0,z5,38,true⟩,⟨w.heap.size + 1,0,[.slice none 0 0,.map none],108,true⟩] K1 [(0,0)] fun w1 K2=>?_
 refine Ap K2 (args:=[.agg ⟨z5⟩,D p1]) (Ps a _ ds _ p1 w1 (t0.below K2.B) k1 hs ht) fun w2 K3=>?_
 refine AC XR K3 [] fun w3 K4=>?_
 refine AM (!(EF a ds p1 == 0)) (fun c4=>?_) (fun c4=>?_)
 ·have K5:=K4.addNil 3 1 (fun e r=>r=Fs e)
  refine AC vT K5 [(1,0)] fun w5 K6=>?_
  have hS:(BT a ds p1)=([],[],EF a ds p1):=by unfold BT; rw [c4] <;> rfl
  exact Ab K6 (1,0) (.tuple #[.agg ⟨[.slice none 0 0,.map none]⟩,D (EF a ds p1)]) (.inr ⟨by rw [hS] <;> rfl,by rw [hS]; simpa using c4,K6.B⟩)
 ·refine BG II fP K4 [] fun w6 K7=>?_
  refine JE KD K7.H (DM fP) (by kernel_rfl) (t:=106) (by kernel_rfl) fun w7 Z7 Hn b7=>?_
  have K8:=K7.add b7 Hn
  have K9:=K8.addFam cQ
  refine C8 oz [⟨w.heap.size,0,z5,38,true⟩,⟨w.heap.size + 1,0,[.slice none 0 0,.map none],108,true⟩,⟨w7.heap.size,0,[.slice none 0 0,.map (some w6.heap.size)],108,true⟩] K9 [(2,0),(0,0)] fun w8 i2=>?_
  refine CJ (QJ a u ds m p1 w8 (t0.below i2.B) (by first | assumption | omega | (simp <;> omega))) fun en q4 hh=>?_
  obtain ⟨c0,h,rfl,y2,Hn⟩:=hh
  refine ⟨_,rfl,?_⟩
  have r3:=i2.join y2 Hn
  have r4:=Ks (ds:=ds) (p1:=p1)
  refine AC XQ r3 [] fun q2 q3=>?_
  have m3:Wk w q2 [⟨w.heap.size,0,z5,38,true⟩,⟨w.heap.size + 1,0,[.slice none 0 0,.map none],108,true⟩,⟨w7.heap.size,0,[.slice none 0 0,.map (some w6.heap.size)],108,true⟩] [(AY.th KD w6.heap.size (([]:List MK).map KZ)),(Hg ([])),(BP c0 h (BC ds p1))] []:=q3.pk [0,1,2] [0,1,2]
  have l3:=m3.addNil 3 1 (fun e r=>r=Fs e)
  have d0:(BT a ds p1)=Bj ds p1 (BC ds p1) 0 ([]) ([]):=by unfold BT; rw [c4] <;> rfl
  let z8:Option Addr:=some ⟨w.heap.size + 1,0,none⟩
  let z9:=((BC ds p1).length:Int)
  let z10:Option Addr:=some ⟨w7.heap.size,0,none⟩
  let z11:Option Addr:=some ⟨w.heap.size,0,none⟩
  refine BB [(2,.pointer z11),(4,.pointer z8),(5,D 0),(7,.pointer z10),(8,.slice c0 ((BC ds p1).length) h),(25,.slice c0 ((BC ds p1).length) h),(26,D (z9)),(27,D (((0:Nat):Int)))] fun u3=>?_
  refine Bi (by kernel_rfl) (fun E t1=>∃ (v:Nat) (a0:Int) (j:List Nat) (i:List MK) (p:Option Addr) (o:Nat) (E0:Nat→Value),v≤(BC ds p1).length∧E=Aw E0 [(2,.pointer z11),(4,.pointer z8),(5,D a0),(7,.pointer z10),(8,.slice c0 ((BC ds p1).length) h),(25,.slice c0 ((BC ds p1).length) h),(26,D (z9)),(27,D ((v:Int)))]∧(BT a ds p1)=Bj ds p1 (List.drop v (BC ds p1)) a0 j (i.map Ix)∧j.length≤1 * v + 0∧i.length≤1 * v + 0∧Wk w t1 [⟨w.heap.size,0,z5,38,true⟩,⟨w.heap.size + 1,0,[.slice none 0 0,.map none],108,true⟩,⟨w7.heap.size,0,[.slice p j.length o,.map (some w6.heap.size)],108,true⟩] [(AY.th KD w6.heap.size (i.map KZ)),(Hg i),(BP c0 h (BC ds p1)),(BP p o j)] []) (fun E _=>(BC ds p1).length - AQ (E 27)) ⟨0,0,([]),([]),none,0,u3,Nat.zero_le _,rfl,d0,by simp,by simp,l3⟩ ?_
  clear d0
  rintro E t1 ⟨v,a0,j,i,p,o,E0,s4,rfl,d0,t2,s2,k3⟩ f0
  refine AC XP k3 [] fun m4 b1=>?_
  refine AM (decide ((v:Int) < z9)) (fun q1=>?_) (fun q1=>?_)
  ·have r0:v < (BC ds p1).length:=by have:=of_decide_eq_true q1; omega
   obtain ⟨b,p0⟩:∃ e,(BC ds p1)[v]?=some e:=⟨_,List.getElem?_eq_getElem r0⟩
   rw [NU v b p0] at d0
   obtain ⟨b0,rfl,v3⟩:=b1.H.rowAt (b1.ix 2) (b1.at 2 rfl) (by omega)
   refine BG Ai fO b1 [] fun k4 f1=>?_
   refine BH (g:=b0) (off:=0) (cap:=h) (sz:=1) (k:=v) (len:=(BC ds p1).length) (some 29) r0 Tryz.underlying56 ?_
   refine EA 3 b0 (0 + v * 1) (D ((b:Int))) (some 30) (by simpa using (f1.H.cellsF (T:=3) (n:=1) (f:=Fs) (c:=h) (l:=(BC ds p1)) (fun _=>rfl) (f1.ix 2) (f1.at 2 rfl) p0) 0 _ rfl) ?_
   let z7:=List.mem_of_getElem? p0
   obtain ⟨h0,k0,rfl,c2,d2⟩:=t0.all (Nat.lt_of_le_of_lt (Nat.zero_le _) (FZ _ z7))
   have r2:ds[b]?=some (ds.getD b default):=getD_some default (FZ _ z7)
   obtain ⟨y0,w0,x0,v0,z1,n1,m1⟩:=d2 b _ r2
   refine BG Ai oy f1 [(0,1)] fun i4 h2=>?_
   refine BH (g:=h0) (off:=k0) (cap:=m) (sz:=21) (k:=b) (len:=ds.length) (some 34) (FZ _ z7) Tryz.underlying36 ?_
   refine CC 34 h0 (k0 + b * 21) [D ((ds.getD b default).kind),.string ⟨⟨(ds.getD b default).name⟩⟩,.bool ((ds.getD b default).tb),D ((ds.getD b default).tm),D ((ds.getD b default).th),D ((ds.getD b default).td),D ((ds.getD b default).frm),.slice y0 ((ds.getD b default).ents.length) w0,D ((ds.getD b default).body.op),D ((ds.getD b default).body.num),D ((ds.getD b default).body.den),D ((ds.getD b default).body.mu),D ((ds.getD b default).body.hu),D ((ds.getD b default).body.du),.string ⟨⟨(ds.getD b default).body.nm⟩⟩,D ((ds.getD b default).body.cnt),D ((ds.getD b default).body.md),.slice x0 ((ds.getD b default).body.ks.length) v0,D ((ds.getD b default).mode),D ((ds.getD b default).num),D ((ds.getD b default).den)] (some 35) (Ac z1 c2 h2.B) ?_
   refine AC ow h2 [] fun p2 s1=>?_
   refine Ap s1 (IK (ds.getD b default) y0 w0 x0 v0 p2 (n1.below s1.B) (m1.below s1.B)) fun h4 i3=>?_
   refine AC jz i3 [] fun g4 g2=>?_
   refine AM (!(Bp (ds.getD b default))) (fun e1=>?_) (fun e1=>?_)
   ·refine AC (Aj XQ) g2 [] fun m2 h3=>?_
    refine BB [(2,.pointer z11),(4,.pointer z8),(5,D a0),(7,.pointer z10),(8,.slice (some ⟨b0,0,none⟩) ((BC ds p1).length) h),(25,.slice (some ⟨b0,0,none⟩) ((BC ds p1).length) h),(26,D (z9)),(27,D (IntKind.i64.wrap ((v:Int) + 1)))] fun t3=>?_
    have g3:Wk w m2 [⟨w.heap.size,0,[.string ⟨⟨a⟩⟩,.slice (some ⟨h0,k0,none⟩) ds.length m],38,true⟩,⟨w.heap.size + 1,0,[.slice none 0 0,.map none],108,true⟩,⟨w7.heap.size,0,[.slice p j.length o,.map (some w6.heap.size)],108,true⟩] [(AY.th KD w6.heap.size (i.map KZ)),(Hg i),(BP (some ⟨b0,0,none⟩) h (BC ds p1)),(BP p o j)] []:=h3.pk [0,1,2] [0,1,2,3]
    rw [Bs v (by omega)]
    refine f0 _ _ ⟨v + 1,a0,j,i,p,o,t3,r0,rfl,by rw [d0,e1] <;> first | rfl | (simp only [cond_true,cond_false,List.length_map,List.map_append,List.map_cons,List.map_nil,id]; done) | (simp only [cond_true,cond_false,List.length_map,List.map_append,List.map_cons,List.map_nil,id]; rfl),by ((try simp only [maxLen,List.length_map,List.length_append,List.length_cons,List.length_nil,List.length_singleton]) <;> omega),by (first | ((try simp only [maxLen,List.length_append,List.length_cons,List.length_nil,List.length_singleton]) <;> omega) | (refine Nat.le_trans (Tt _ _ _) ?_; ((try simp only [maxLen,List.length_append,List.length_cons,List.length_nil,List.length_singleton]) <;> omega))),g3⟩ ?_
    show (BC ds p1).length - AQ (D ((v + 1:Nat):Int)) < (BC ds p1).length - AQ (D (v:Int))
    simp only [AQ]
    omega
   ·refine AC jy g2 [(0,0)] fun l2 a1=>?_
    let z4:List Value:=[.string ⟨⟨a⟩⟩,.slice (some ⟨h0,k0,none⟩) ds.length m]
    refine CJ (args:=[.agg ⟨z4⟩,.slice (some ⟨b0,0,none⟩) ((BC ds p1).length) h,D ((b:Int))]) (cD a (some ⟨h0,k0,none⟩) ds m (some ⟨b0,0,none⟩) (BC ds p1) h b l2 (t0.below a1.B) (by first | assumption | omega | (simp <;> omega)) (a1.H.rowsNat (a1.ix 2) (a1.at 2 rfl)) (by first | assumption | omega | (simp <;> omega)) (FZ _ z7) FZ a2 hn) fun en f4 hh=>?_
    obtain ⟨s,q,rfl,x2,Hn⟩:=hh
    refine ⟨_,rfl,?_⟩
    have f3:=a1.join x2 Hn
    refine AC R3 f3 [] fun h1 f2=>?_
    let z6:=(DS ds (BC ds p1) b)
    refine AM (!(z6.2 == 0)) (fun d1=>?_) (fun d1=>?_)
    ·have e3:=f2.addNil 3 1 (fun e r=>r=Fs e)
     refine AC sU e3 [(1,0)] fun e4 e2=>?_
     have hS:(BT a ds p1)=([],[],z6.2):=by rw [d0,e1,d1] <;> rfl
     exact Ab e2 (1,0) (.tuple #[.agg ⟨[.slice none 0 0,.map none]⟩,D (z6.2)]) (.inr ⟨by rw [hS] <;> rfl,by rw [hS]; simpa using d1,e2.B⟩)
    ·refine Cb Bb R2 [⟨w.heap.size,0,z4,38,true⟩,⟨w.heap.size + 1,0,[.slice none 0 0,.map none],108,true⟩,⟨w7.heap.size,0,[.slice p j.length o,.map (some w6.heap.size)],108,true⟩,⟨h1.heap.size,0,[D ((b:Int))],3,true⟩] f2 [(2,0)] fun b4 z0=>?_
     refine Ch z0.H (z0.ix 3) (z0.at 3 rfl) b [D ((b:Int))] rfl (h1.heap.size) (z0.ent 3 (by kernel_rfl)) (DM R2) (by kernel_rfl) (.tmp 50) (.tmp 52) 56 (by kernel_rfl) (by kernel_rfl) (by kernel_rfl) (by decide) (by kernel_rfl) (by kernel_rfl) rfl rfl (by ((try simp only [maxLen,List.length_map,List.length_append,List.length_cons,List.length_nil,List.length_singleton]) <;> omega)) fun g1 c1 a4 Hn v2=>?_
     have d3:=z0.put 3 (by simp) v2 Hn
     refine Cb PZ jx [⟨w.heap.size,0,z4,38,true⟩,⟨w.heap.size + 1,0,[.slice none 0 0,.map none],108,true⟩,⟨w7.heap.size,0,[.slice g1 ((j++[b]).length) c1,.map (some w6.heap.size)],108,true⟩,⟨h1.heap.size,0,[D ((b:Int))],3,true⟩] d3 [(2,0),(2,1)] fun z3 q0=>?_
     refine RM KD q0.H (q0.ix 0) (q0.at 0 rfl) b (s,(z6.1).length,q) (by show _≤_; have:=FZ _ z7; omega) (q0.H.rowSpot (q0.ix 4) (q0.at 4 rfl)) (DM jx) (by kernel_rfl) (t:=106) (x:=.tmp 56) (y:=.tmp 57) (z:=.tmp 58) (by kernel_rfl) rfl (by kernel_rfl) (by kernel_rfl) (by kernel_rfl) (by ((try simp only [maxLen,List.length_map,List.length_append,List.length_cons,List.length_nil,List.length_singleton]) <;> omega)) fun y3 Hn u2=>?_
     have c3:=q0.put 0 (by simp) u2 Hn
     have b3:=c3.take 1 4 cQ i (((b,z6.1,s,q) :: i:List MK)) (b,z6.1,s,q) rfl rfl (by decide) (by intro z; simp)
     refine AC (Aj XQ) b3 [] fun k2 a3=>?_
     refine BB [(2,.pointer z11),(4,.pointer z8),(5,D a0),(7,.pointer z10),(8,.slice (some ⟨b0,0,none⟩) ((BC ds p1).length) h),(25,.slice (some ⟨b0,0,none⟩) ((BC ds p1).length) h),(26,D (z9)),(27,D (IntKind.i64.wrap ((v:Int) + 1)))] fun s3=>?_
     have z2:Wk w k2 [⟨w.heap.size,0,z4,38,true⟩,⟨w.heap.size + 1,0,[.slice none 0 0,.map none],108,true⟩,⟨w7.heap.size,0,[.slice g1 ((j++[b]).length) c1,.map (some w6.heap.size)],108,true⟩] [(AY.th KD w6.heap.size (((b,z6.1,s,q) :: i:List MK).map KZ)),(Hg ((b,z6.1,s,q) :: i)),(BP (some ⟨b0,0,none⟩) h (BC ds p1)),(BP g1 c1 (j++[b]))] []:=a3.pk [0,1,2] [0,1,2,3]
     rw [Bs v (by omega)]
     refine f0 _ _ ⟨v + 1,a0,(j++[b]),((b,z6.1,s,q) :: i),g1,c1,s3,r0,rfl,by rw [d0,e1,d1] <;> first | rfl | (simp only [cond_true,cond_false,List.length_map,List.map_append,List.map_cons,List.map_nil,id]; done) | (simp only [cond_true,cond_false,List.length_map,List.map_append,List.map_cons,List.map_nil,id]; rfl),by ((try simp only [maxLen,List.length_map,List.length_append,List.length_cons,List.length_nil,List.length_singleton]) <;> omega),by (first | ((try simp only [maxLen,List.length_append,List.length_cons,List.length_nil,List.length_singleton]) <;> omega) | (refine Nat.le_trans (Tt _ _ _) ?_; ((try simp only [maxLen,List.length_append,List.length_cons,List.length_nil,List.length_singleton]) <;> omega))),z2⟩ ?_
     show (BC ds p1).length - AQ (D ((v + 1:Nat):Int)) < (BC ds p1).length - AQ (D (v:Int))
     simp only [AQ]
     omega
  ·have b2:v=(BC ds p1).length:=by have:=of_decide_eq_false q1; omega
   rw [b2,List.drop_length,OE] at d0
   refine BQ sT b1 [(2,0),(1,0)] fun x3 r1=>?_
   have hS:(BT a ds p1)=(j,(i.map Ix),0):=by rw [d0] <;> rfl
   exact Ab r1 (1,0) (.tuple #[.agg ⟨[.slice p j.length o,.map (some w6.heap.size)]⟩,D 0]) (.inl ⟨p,o,w6.heap.size,i,by rw [hS] <;> rfl,by rw [hS],r1.B,by rw [hS],by rw [hS]; exact r1.own0 [3,0,1] rfl (by decide)⟩)
end
end Go.Proofs.YtmcpjkcggfmcmaaGreatDoor
namespace Go.Proofs.YtmcpjkcggfmcmaaGreatDoor
noncomputable section
open Go.RowKit
set_option maxRecDepth 100000
set_option maxHeartbeats 1000000
attribute [local irreducible] BO CB AE AG AL Ay Aj AP Bc Cq Eb CT CO At Fr
def IQ (i:Nat) (ml:List (Nat×Bool)):Bool:=!((CA ml i).getD false)
noncomputable def Qj:Code:=Tryz.f96.body.getD .skip
def XG:=AB (BA (NJ 149) 90 ([.code Qj])) ([.code Qj])
def jp:=AB (BA FJ 90 (AE (XG))) (AE (XG))
def sR:=AB 60 (AE jp)
theorem VL (i b h:Nat) (g:List (Nat×Bool)) (w:World) (d:b < w.heap.size) (a:w.rangeAt b 0 [.map (some h)]) (f:AY.at Ht h g w) (hi:i≤4294967296):Calls Tryz.prog 96 ([D ((i:Int)),.pointer (some ⟨b,0,none⟩)]:List Value).toArray w fun e w'=>e=.returned (.bool (IQ i g))∧Below w.heap.size w w':=by
 refine Af (fn:=Tryz.f96) (c:=Qj) (n:=8) ?_
 have o:=d
 have j:=a
 have q:=Wk.start w
 refine BG (NJ 149) XG q [] fun u l=>?_
 refine EA 149 b 0 (.map (some h)) (some 4) (by simpa using Ac a d l.B 0 _ rfl) ?_
 refine BG FJ jp l [] fun s k=>?_
 refine IA (HQ Ht (t:=149) (x:=.tmp 4) (y:=.tmp 5) (by kernel_rfl) rfl (b:=h) (m:=g) (by kernel_rfl) i (by kernel_rfl) hi (AY.below f k.B)) ?_
 refine AC sR k [] fun r p=>?_
 exact AO p (0,0) (.bool (!((CA g i).getD false))) (by unfold IQ; rfl)
end
end Go.Proofs.YtmcpjkcggfmcmaaGreatDoor
namespace Go.Proofs.YtmcpjkcggfmcmaaGreatDoor
noncomputable section
open Go.RowKit
set_option maxRecDepth 100000
set_option maxHeartbeats 1000000
attribute [local irreducible] BO CB AE AG AL Ay Aj AP Bc Cq Eb CT CO At Fr
def Cz (F:Nat→Bool):List (Nat)→Nat→Int→Int
 | [],i0,a0_0=>-1
 | e0 :: tl,i0,a0_0=>cond (F e0) ((i0:Int)) (Cz F tl (i0 + 1) a0_0)
theorem OJ {F:Nat→Bool} {b:Nat} {a:Int}:Cz F [] b a=(-1):=by rw [Cz]
theorem NV {F:Nat→Bool} {b:Int} {es:List (Nat)} (a c:Nat) (hi:es[a]?=some c):Cz F (es.drop a) a b=(cond (F c) ((a:Int)) (Cz F (es.drop (a + 1)) (a + 1) b)):=by
 have hl:a < es.length:=(List.getElem?_eq_some_iff.1 hi).1
 have he:es[a]=c:=(List.getElem?_eq_some_iff.1 hi).2
 rw [← List.getElem_cons_drop hl,Cz] <;> (try rw [he])
def Cp (F:Nat→Bool) (ds:List (Nat)):Int:=Cz F ds 0 0
noncomputable def Vx:Code:=Tryz.f93.body.getD .skip
def WK:=AB 60 ([.code Vx])
def Rx:=AB 60 (Ay WK)
def i6:=AB (BA Ai 90 (AG Rx)) (AG Rx)
def iz:=AB 60 (AE (AE i6))
def iy:=AB 60 (AE iz)
def ra:=AB 60 (AG iy)
def rZ:=AB 60 (AL Rx)
theorem Ms (F:Nat→Bool) (j:Option Addr) (ds:List (Nat)) (f:Nat) (g:FuncId) (cap:List Value) (w:World) (t:rowsNat w j ds) (a0:ds.length≤4294967296) (hg:Dw Tryz.prog g=true) (hF:∀ u,Below w.heap.size w u→∀ (e:Nat),e∈ds→Calls Tryz.prog g (D (e:Int) :: cap).toArray u fun en w'=>en=.returned (.bool (F e))∧Below u.heap.size u w'):Calls Tryz.prog 93 ([.slice j ds.length f,.func (.func g) #[] ⟨cap⟩]:List Value).toArray w fun e w'=>e=.returned (D (Cp F ds))∧Below w.heap.size w w':=by
 refine Af (fn:=Tryz.f93) (c:=Vx) (n:=19) ?_
 have K1:=Wk.start w
 refine AC WK K1 [] fun w1 K2=>?_
 have K3:Wk w w1 [] [] []:=K2.pk [] []
 have b:(Cp F ds)=Cz F ds 0 0:=by unfold Cp; rfl
 refine BB [(0,.slice j ds.length f),(1,.func (.func g) #[] ⟨cap⟩),(4,D 0),(7,D ((ds.length:Int))),(8,D (((0:Nat):Int)))] fun E2=>?_
 refine Bi (by kernel_rfl) (fun E q=>∃ (a:Nat) (d:Int) (E0:Nat→Value),a≤ds.length∧E=Aw E0 [(0,.slice j ds.length f),(1,.func (.func g) #[] ⟨cap⟩),(4,D d),(7,D ((ds.length:Int))),(8,D ((a:Int)))]∧(Cp F ds)=Cz F (List.drop a ds) a d∧Wk w q [] [] []) (fun E _=>ds.length - AQ (E 8)) ⟨0,0,E2,Nat.zero_le _,rfl,b,K3⟩ ?_
 clear b
 rintro E q ⟨a,d,E0,q0,rfl,b,K4⟩ i
 refine AC Rx K4 [] fun w4 K5=>?_
 refine AM (decide ((a:Int) < (ds.length:Int))) (fun c5=>?_) (fun c5=>?_)
 ·have h:a < ds.length:=by have:=of_decide_eq_true c5; omega
  obtain ⟨y,l⟩:∃ e,ds[a]?=some e:=⟨_,List.getElem?_eq_getElem h⟩
  rw [NV a y l] at b
  obtain ⟨m,o,rfl,v,x⟩:=t.all (by omega)
  have r:=x a _ l
  refine BG Ai i6 K5 [] fun w6 K6=>?_
  refine BH (g:=m) (off:=o) (cap:=f) (sz:=1) (k:=a) (len:=ds.length) (some 14) h Tryz.underlying56 ?_
  refine EA 3 m (o + a * 1) (D ((y:Int))) (some 15) (by simpa using Ac r v K6.B 0 _ rfl) ?_
  refine AC iz K6 [] fun w7 K7=>?_
  refine M5 g (D ((y:Int)) :: cap) (hg:=hg) (hF w7 K7.B _ (List.mem_of_getElem? l)) fun en w8 hh=>?_
  obtain ⟨rfl,b8⟩:=hh
  refine ⟨_,rfl,?_⟩
  have K8:=K7.below b8
  refine AC iy K8 [] fun w9 K9=>?_
  refine AM (F y) (fun p=>?_) (fun p=>?_)
  ·refine AC ra K9 [] fun p0 f0=>?_
   exact AO f0 (0,0) (D ((a:Int))) (by rw [b,p] <;> rfl)
  ·refine AC (Aj WK) K9 [] fun z d0=>?_
   refine BB [(0,.slice (some ⟨m,o,none⟩) ds.length f),(1,.func (.func g) #[] ⟨cap⟩),(4,D d),(7,D ((ds.length:Int))),(8,D (IntKind.i64.wrap ((a:Int) + 1)))] fun h0=>?_
   have c0:Wk w z [] [] []:=d0.pk [] []
   rw [Bs a (by omega)]
   refine i _ _ ⟨a + 1,d,h0,h,rfl,by rw [b,p] <;> rfl,c0⟩ ?_
   show ds.length - AQ (D ((a + 1:Nat):Int)) < ds.length - AQ (D (a:Int))
   simp only [AQ]
   omega
 ·have s:a=ds.length:=by have:=of_decide_eq_false c5; omega
  rw [s,List.drop_length,OJ] at b
  refine AC rZ K5 [] fun k0 b0=>?_
  exact AO b0 (0,0) (D (-1)) (by rw [b] <;> rfl)
def GU (F:Nat→Bool) (ds:List (Nat)):Bool:=decide (0≤Cp F ds)
noncomputable def Ug:Code:=Tryz.f95.body.getD .skip
def Zj:=AB 60 ([.code Ug])
def nO:=AB 60 (AE Zj)
theorem Pu (F:Nat→Bool) (a:Option Addr) (ds:List (Nat)) (d:Nat) (g:FuncId) (cap:List Value) (w:World) (f:rowsNat w a ds) (b:ds.length≤4294967296) (hg:Dw Tryz.prog g=true) (k:∀ u,Below w.heap.size w u→∀ (e:Nat),e∈ds→Calls Tryz.prog g (D (e:Int) :: cap).toArray u fun l w'=>l=.returned (.bool (F e))∧Below u.heap.size u w'):Calls Tryz.prog 95 ([.slice a ds.length d,.func (.func g) #[] ⟨cap⟩]:List Value).toArray w fun e w'=>e=.returned (.bool (GU F ds))∧Below w.heap.size w w':=by
 refine Af (fn:=Tryz.f95) (c:=Ug) (n:=9) ?_
 have q:=Wk.start w
 refine AC Zj q [] fun i h=>?_
 refine Ap h (args:=[.slice a ds.length d,.func (.func g) #[] ⟨cap⟩]) (Ms F _ ds _ g cap i (f.below h.B) b hg (fun j m=>k j (h.B.trans (m.mono h.B.size)))) fun s p=>?_
 refine AC nO p [] fun r o=>?_
 exact AO o (0,0) (.bool (decide (0≤Cp F ds))) (by unfold GU; rfl)
end
end Go.Proofs.YtmcpjkcggfmcmaaGreatDoor
namespace Go.Proofs.YtmcpjkcggfmcmaaGreatDoor
open Go.RowKit
set_option maxRecDepth 100000
set_option maxHeartbeats 600000
def Ed (ml:List (Nat×Bool)) (ns:List (Nat×List Nat)) (i:Nat):Bool:=cond (!((CA ml i).getD false)) (!(GU (fun j=>IQ j ml) ((CA ns i).getD []))) false
noncomputable def NN:Code:=Tryz.f94.body.getD .skip
noncomputable def jq:=Ad 1 ([.code NN])
theorem VM (i b k:Nat) (f:List (Nat×Bool)) (o:Nat) (z:Option Addr) (s v p:Nat) (xs:List MK) (w:World) (a:b < w.heap.size) (d:w.rangeAt b 0 [.map (some k)]) (hm:AY.at Ht k f w) (g:o < w.heap.size) (h:w.rangeAt o 0 [.slice z s v,.map (some p)])
  (hn:AY.at KD p (xs.map KZ) w) (hf:(Hg xs).P w) (hi:i≤4294967296) (hk:∀ j∈(CA (xs.map Ix) i).getD [],j≤4294967296) (hl:((CA (xs.map Ix) i).getD []).length≤4294967296) :
  Calls Tryz.prog 94 ([D (i:Int),.pointer (some ⟨b,0,none⟩),.pointer (some ⟨o,0,none⟩)]:List Value).toArray w fun e w'=>e=.returned (.bool (Ed f (xs.map Ix) i))∧Below w.heap.size w w':=by
 refine GD (args:=[D (i:Int),.pointer (some ⟨b,0,none⟩),.pointer (some ⟨o,0,none⟩)]) (fn:=Tryz.f94) (c:=NN) (n:=18) ?_
 obtain ⟨A,c,hv,hr⟩:=mh hf i
 generalize hls:(CA (xs.map Ix) i).getD []=l at hv hr hk hl
 refine Am (JO 1 90 ([.code NN])) ([.code NN]) w.heap.size [] [] jq [(0,D (i:Int)),(1,.pointer (some ⟨b,0,none⟩)),(2,.pointer (some ⟨o,0,none⟩))] w.heap.size [] (Br w) fun w1 E1 b0 a0=>?_
 have B:Below w.heap.size w w1:=CX a0
 have G:∀ e∈([⟨b,0,[.map (some k)],149,false⟩,⟨o,0,[.slice z s v,.map (some p)],108,false⟩]:List BI),e.good w1:=fun e he=>by
  simp only [List.mem_cons,List.not_mem_nil,or_false] at he
  rcases he with rfl | rfl
  ·exact ⟨Nat.lt_of_lt_of_le a B.size,Ac d a B⟩
  ·exact ⟨Nat.lt_of_lt_of_le g B.size,Ac h g B⟩
 refine HW ((C6 jq).getD #[]) ⟨[⟨b,0,[.map (some k)],149,false⟩,⟨o,0,[.slice z s v,.map (some p)],108,false⟩],[(0,0,0),(6,1,1)],[⟨2,[(5,.map (some k)),(6,D (i:Int))],.bool ((CA f i).getD false),true⟩,⟨8,[(11,.map (some p)),(12,D (i:Int))],.slice A l.length c,(!((CA f i).getD false)) && true⟩,⟨10,[(13,.slice A l.length c),(14,.func (.func 96) #[] ⟨[.pointer (some ⟨b,0,none⟩)]⟩)],.bool (GU (fun j=>IQ j f) l),(!((CA f i).getD false)) && true⟩]⟩
  [(4,.bool (cond (!((CA f i).getD false)) (!(GU (fun j=>IQ j f) l)) false))] (by kernel_rfl) (by kernel_rfl) (by kernel_rfl) G (fun sp q=>?_) (fun X=>by kernel_rfl) (by kernel_rfl) fun w2 E2 b2=>?_
 ·simp only [List.mem_cons,List.not_mem_nil,or_false] at q
  rcases q with rfl | rfl | rfl
  ·exact An fun _ E u bu=>HQ Ht (t:=149) (x:=.tmp 5) (y:=.tmp 6) (by kernel_rfl) rfl (b:=k) (m:=f) (by kernel_rfl) i (by kernel_rfl) hi (AY.below hm (B.trans (bu.mono B.size)))
  ·exact An fun _ E u bu=>(HQ KD (t:=106) (x:=.tmp 11) (y:=.tmp 12) (by kernel_rfl) rfl (b:=p) (m:=xs.map KZ) (by kernel_rfl) i (by kernel_rfl) hi (AY.below hn (B.trans (bu.mono B.size)))).trans (by
    show Result.ok (Next.value (KD.ev ((CA (xs.map KZ) i).getD (none,0,0)))) u=_
    rw [hv]
    rfl)
  ·exact AX 95 [.tmp 13,.tmp 14] [.slice A l.length c,.func (.func 96) #[] ⟨[.pointer (some ⟨b,0,none⟩)]⟩] (fun _=>by kernel_rfl) fun hc u hu=>AR hu (Pu (fun j=>IQ j f) A l c 96 [.pointer (some ⟨b,0,none⟩)] u (FB.below hr (B.trans (hu.mono B.size))) hl (by kernel_rfl) (fun u2 r j hj=>by
    have Bu:Below w.heap.size w u2:=(B.trans (hu.mono B.size)).trans (r.mono (B.trans (hu.mono B.size)).size)
    exact VL j b k f u2 (Nat.lt_of_lt_of_le a Bu.size) (Ac d a Bu) (AY.below hm Bu) (hk j hj)))
 ·replace B:=B.trans (b2.mono B.size)
  exact Eg (fn:=Tryz.f94) 60 (.bool (cond (!((CA f i).getD false)) (!(GU (fun j=>IQ j f) l)) false)) fun wz Bz=>⟨by unfold Ed; rw [hls],B.trans (Bz.mono B.size)⟩
end Go.Proofs.YtmcpjkcggfmcmaaGreatDoor

/-
  Part 26 of a proof: contracts of functions.
-/
import Derived.Test.YtmcpjkcggfmcmaaGreatDoorD25
import Derived.StringKeys
set_option linter.all false
namespace Go.Proofs.YtmcpjkcggfmcmaaGreatDoor
noncomputable section
open Go.RowKit
set_option maxRecDepth 100000
set_option maxHeartbeats 1000000
attribute [local irreducible] BO CB AE AG AL Ay Aj AP Bc Cq Eb CT CO At Fr
theorem Ee {α:Type} [Inhabited α] {l:List α} {i:Nat} (h:i < l.length):l.getD i default∈l:=List.mem_of_getElem? (getD_some default h)
theorem PN (x:Ex):(BV [] x).length≤nE x:=by simpa using Lh [] x
theorem MC {ds:List Df} {x:Ex} {P:Nat→Prop}:∀ (c:List Nat) (a:Int) (b:Bool),(∀ i∈c,P i)→(!(DT ds x c a b).2)=false→P (DT ds x c a b).1
 | [],a,b,_,h=>by rw [DT] at h; cases h
 | e :: es,a,b,hp,h=>by
  rw [DT] at h ⊢
  revert h
  cases (cond (cond (cond (x.op == 3) (Bp (ds.getD e default)) (false)) (true) (cond (x.op == 4) ((ds.getD e default).kind == 2) (false))) (decide ((ds.getD e default).name=x.nm)) (false)) <;> intro h
  ·exact MC es a b (fun i hi=>hp i (by simp [hi])) h
  ·exact hp e (by simp)
theorem MB {ds:List Df} {x:Ex} {P:Nat→Prop}:∀ (c:List Nat) (a:Int) (b:Bool),(∀ i∈c,P i)→(!(De ds x c a b).2)=false→P (De ds x c a b).1
 | [],a,b,_,h=>by rw [De] at h; cases h
 | e :: es,a,b,hp,h=>by
  rw [De] at h ⊢
  revert h
  cases (cond (cond (cond (x.op == 3) (Bp (ds.getD e default)) (false)) (true) (cond (x.op == 4) ((ds.getD e default).kind == 2) (false))) (decide ((ds.getD e default).name=x.nm)) (false)) <;> intro h
  ·exact MB es a b (fun i hi=>hp i (by simp [hi])) h
  ·exact hp e (by simp)
theorem MD {ds:List Df} {x:Ex} {c:List Nat} (d:∀ i∈c,i < ds.length):∀ (es:List Df) (i:Nat) (a:Int) (b:Bool),i + es.length=ds.length→(!(Dg ds c x es i a b).2)=false→(Dg ds c x es i a b).1 < ds.length
 | [],i,a,b,_,h=>by rw [Dg] at h ⊢; exact MC (P:=fun i=>i < ds.length) c a b d h
 | e :: es,i,a,b,hl,h=>by
  rw [List.length_cons] at hl
  rw [Dg] at h ⊢
  revert h
  cases (cond (e.kind == 1) (decide (e.name=x.nm)) (false)) <;> intro h
  ·exact MD d es (i + 1) a b (by omega) h
  ·show i < ds.length
   omega
theorem Lv {ds:List Df} {x:Ex} {a:List Nat} (b:∀ i∈a,i < ds.length) (h:(!(Ax ds a x).2)=false):(Ax ds a x).1 < ds.length:=by
 unfold Ax at h ⊢
 revert h
 cases x.op == 3 <;> intro h
 ·exact MB (P:=fun i=>i < ds.length) a 0 false b h
 ·exact MD b ds 0 0 false (Nat.zero_add _) h
def Dt (ds:List (Df)) (act:List (Nat)):List (Ex)→Int→List Nat→List Nat×Int
 | [],a0_0,a0_1=>((Ew (GH a0_1)),0)
 | e0 :: tl,a0_0,a0_1=>cond (!(((Ax ds act e0)).2)) (([],7)) (cond (Bp ((ds.getD ((Ax ds act e0)).1 default))) (Dt ds act tl a0_0 (a0_1++[((Ax ds act e0)).1])) (Dt ds act tl a0_0 a0_1))
theorem Rh {ds:List (Df)} {c:List (Nat)} {b:Int} {a:List Nat}:Dt ds c [] b a=(((Ew (GH a)),0)):=by rw [Dt]
theorem QX {ds:List (Df)} {a:List (Nat)} {c:Int} {b:List Nat} {es:List (Ex)} (i:Nat) (d:Ex) (hi:es[i]?=some d):Dt ds a (es.drop i) c b=(cond (!(((Ax ds a d)).2)) (([],7)) (cond (Bp ((ds.getD ((Ax ds a d)).1 default))) (Dt ds a (es.drop (i + 1)) c (b++[((Ax ds a d)).1])) (Dt ds a (es.drop (i + 1)) c b))):=by
 have hl:i < es.length:=(List.getElem?_eq_some_iff.1 hi).1
 have he:es[i]=d:=(List.getElem?_eq_some_iff.1 hi).2
 rw [← List.getElem_cons_drop hl,Dt] <;> (try rw [he])
def DS (ds:List (Df)) (act:List (Nat)) (i:Nat):List Nat×Int:=Dt ds act ((BV [] ((ds.getD i default).body))) 0 ([])
noncomputable def Uo:Code:=Tryz.f92.body.getD .skip
def fj:=AB (BA Ai 90 ([.code Uo])) ([.code Uo])
def pw:=AB (BA (NJ 32) 90 (AE fj)) (AE fj)
def pu:=AB 60 (AE (pw))
def X0:=AB 60 (AE pu)
def Xz:=AB 60 (Ay X0)
def pr:=AB (BA Ai 90 (AG Xz)) (AG Xz)
def pq:=AB 60 (AE (AE pr))
def Xy:=AB 60 (AE pq)
def vv:=AB 60 (AG Xy)
def pp:=AB (BA Ai 90 (AL Xy)) (AL Xy)
def kY:=AB 60 (AE (AE pp))
def X1:=AB 60 (AE kY)
def kX:=AB (BA Bb 90 (AG X1)) (AG X1)
def kW:=AB 60 (AL Xz)
def kV:=AB 60 (AE kW)
def tG:=AB 60 (AE kV)
theorem cD (v:List UInt8) (d1:Option Addr) (ds:List (Df)) (m:Nat) (c0:Option Addr) (a:List (Nat)) (k0 i:Nat) (w:World) (e1:rowsDf w d1 ds) (a3:ds.length≤4294967296) (i1:rowsNat w c0 a) (r2:a.length≤4294967296) (a0:i < ds.length) (h1:∀ i∈a,i < ds.length) (g2:∀ d∈ds,Dq d.body) (hn:∀ d∈ds,nE d.body≤1000000):Calls Tryz.prog 92 ([.agg ⟨[.string ⟨⟨v⟩⟩,.slice d1 ds.length m]⟩,.slice c0 a.length k0,D ((i:Int))]:List Value).toArray w fun e w'=>∃ (d2:Option Addr) (c2:Nat),e=.returned (.tuple #[.slice d2 ((((DS ds a i)).1).length) c2,D (((DS ds a i)).2)])∧Below w.heap.size w w'∧AU w.heap.size w' [BP d2 c2 (((DS ds a i)).1)]:=by
 refine Af (fn:=Tryz.f92) (c:=Uo) (n:=49) ?_
 have K1:=Wk.start w
 obtain ⟨p,q,rfl,f1,g1⟩:=e1.all (by omega)
 have c3:ds[i]?=some (ds.getD i default):=getD_some default a0
 obtain ⟨m3,g3,f0,d0,f2,f3,p1⟩:=g1 i _ c3
 let z4:List BI:=[⟨w.heap.size,0,[.string ⟨⟨v⟩⟩,.slice (some ⟨p,q,none⟩) ds.length m],38,true⟩]
 refine Cb Ai fj z4 K1 [(0,1)] fun w1 K2=>?_
 refine BH (g:=p) (off:=q) (cap:=m) (sz:=21) (k:=i) (len:=ds.length) (some 16) a0 Tryz.underlying36 ?_
 refine BG (NJ 32) pw K2 [] fun w2 K3=>?_
 refine CC 32 p (q + i * 21 + 8) [D ((ds.getD i default).body.op),D ((ds.getD i default).body.num),D ((ds.getD i default).body.den),D ((ds.getD i default).body.mu),D ((ds.getD i default).body.hu),D ((ds.getD i default).body.du),.string ⟨⟨(ds.getD i default).body.nm⟩⟩,D ((ds.getD i default).body.cnt),D ((ds.getD i default).body.md),.slice f0 ((ds.getD i default).body.ks.length) d0] (some 18) (Li (Ac f2 f1 K3.B) 8 _ rfl) ?_
 refine AC pu K3 [] fun w3 K4=>?_
 have K5:=K4.addNil 32 10 (D2 CY w)
 have Kf:=(K5.pickL (L':=[(Fe w none 0 ([]))]++[]) [0] rfl (by decide)).front
 refine CJ (args:=[.slice none 0 0,.agg ⟨[D ((ds.getD i default).body.op),D ((ds.getD i default).body.num),D ((ds.getD i default).body.den),D ((ds.getD i default).body.mu),D ((ds.getD i default).body.hu),D ((ds.getD i default).body.du),.string ⟨⟨(ds.getD i default).body.nm⟩⟩,D ((ds.getD i default).body.cnt),D ((ds.getD i default).body.md),.slice f0 ((ds.getD i default).body.ks.length) d0]⟩]) (T4 _ _ none [] 0 ((ds.getD i default).body) f0 d0 w w3 p1 (Nat.le_refl _) (g2 _ (Ee a0)) (by have:=hn _ (Ee a0); simp only [List.length_nil]; omega) K5.B Kf) fun en w5 hh=>?_
 obtain ⟨u,o,rfl,b5,Hn⟩:=hh
 refine ⟨_,rfl,?_⟩
 have K6:=Wk.unfront b5 Hn
 have w4:=PN ((ds.getD i default).body)
 have v4:=hn _ (Ee a0)
 refine AC X0 K6 [] fun w6 K7=>?_
 let z6:=Fe w u o ((BV [] ((ds.getD i default).body)))
 have K8:Wk w w6 z4 [z6] []:=K7.pk [0] [0]
 have K9:=K8.addNil 3 1 (fun e r=>r=Fs e)
 have x:(DS ds a i)=Dt ds a ((BV [] ((ds.getD i default).body))) 0 ([]):=by unfold DS; rfl
 let z5:=(((BV [] ((ds.getD i default).body))).length:Int)
 let z7:=((BV [] ((ds.getD i default).body))).length
 refine BB [(1,.slice c0 a.length k0),(3,.pointer (some ⟨w.heap.size,0,none⟩)),(6,.slice none 0 0),(7,D 0),(8,.slice none 0 0),(19,.slice u z7 o),(20,D (z5)),(21,D (((0:Nat):Int)))] fun E7=>?_
 refine Bi (by kernel_rfl) (fun E z1=>∃ (t:Nat) (s:Int) (b:List Nat) (j:Option Addr) (f:Nat) (E0:Nat→Value),t≤((BV [] ((ds.getD i default).body))).length∧E=Aw E0 [(1,.slice c0 a.length k0),(3,.pointer (some ⟨w.heap.size,0,none⟩)),(6,.slice none 0 0),(7,D s),(8,.slice j b.length f),(19,.slice u z7 o),(20,D (z5)),(21,D ((t:Int)))]∧(DS ds a i)=Dt ds a (List.drop t ((BV [] ((ds.getD i default).body)))) s b∧b.length≤1 * t + 0∧Wk w z1 z4 [z6,(BP j f b)] []) (fun E _=>((BV [] ((ds.getD i default).body))).length - AQ (E 21)) ⟨0,0,([]),none,0,E7,Nat.zero_le _,rfl,x,by simp,K9⟩ ?_
 clear x
 rintro E z1 ⟨t,s,b,j,f,E0,x4,rfl,x,e3,b4⟩ b0
 refine AC Xz b4 [] fun w9 y0=>?_
 refine AM (decide ((t:Int) < z5)) (fun s1=>?_) (fun s1=>?_)
 ·have h0:t < (BV [] ((ds.getD i default).body)).length:=by have:=of_decide_eq_true s1; omega
  obtain ⟨l,i2⟩:∃ e,((BV [] ((ds.getD i default).body)))[t]?=some e:=⟨_,List.getElem?_eq_getElem h0⟩
  rw [QX t l i2] at x
  obtain ⟨p0,rfl,f4⟩:=y0.H.rowAt (y0.ix 0) (y0.at 0 rfl) (by omega)
  refine BG Ai pr y0 [] fun b2 c1=>?_
  refine BH (g:=p0) (off:=0) (cap:=o) (sz:=10) (k:=t) (len:=((BV [] ((ds.getD i default).body))).length) (some 23) h0 Tryz.underlying30 ?_
  obtain ⟨r9,z2,d3⟩:=c1.H.cells (fun _ _ h=>Vv h) (c1.ix 0) (c1.at 0 rfl) i2
  obtain ⟨z,y,rfl,n1⟩:=cW z2
  refine CC 32 p0 (0 + t * 10) [D l.op,D l.num,D l.den,D l.mu,D l.hu,D l.du,.string ⟨⟨l.nm⟩⟩,D l.cnt,D l.md,.slice z l.ks.length y] (some 24) d3 ?_
  refine C8 pq [⟨w.heap.size,0,[.string ⟨⟨v⟩⟩,.slice (some ⟨p,q,none⟩) ds.length m],38,true⟩,⟨b2.heap.size,0,(CW l z y),32,true⟩] c1 [(1,0),(0,0),(1,0)] fun y2 b1=>?_
  refine CJ (VN v (some ⟨p,q,none⟩) ds m c0 a k0 l z y y2 (e1.below b1.B) (by first | assumption | omega | (simp <;> omega)) (i1.below b1.B) (by first | assumption | omega | (simp <;> omega)) (n1.below b1.B) h1) fun en u4 hh=>?_
  obtain ⟨rfl,l3⟩:=hh
  refine ⟨_,rfl,?_⟩
  have a4:=b1.below l3
  refine AC Xy a4 [] fun t4 q2=>?_
  refine AM (!(((Ax ds a l)).2)) (fun a1=>?_) (fun a1=>?_)
  ·have z3:=q2.addNil 3 1 (fun e r=>r=Fs e)
   refine AC vv z3 [] fun s4 x1=>?_
   have hS:(DS ds a i)=([],7):=by rw [x,a1] <;> rfl
   exact Ab x1 (0,0) (.tuple #[.slice none 0 0,D 7]) ⟨none,0,by rw [hS] <;> rfl,x1.B,by rw [hS]; exact x1.own0 [2] rfl (by decide)⟩
  ·have b3:ds[((Ax ds a l)).1]?=some (ds.getD ((Ax ds a l)).1 default):=getD_some default (Lv h1 (by assumption))
   obtain ⟨w0,r0,v0,q0,e2,m1,k1⟩:=g1 ((Ax ds a l)).1 _ b3
   refine BG Ai pp q2 [(0,1)] fun r4 p2=>?_
   refine BH (g:=p) (off:=q) (cap:=m) (sz:=21) (k:=(((Ax ds a l)).1)) (len:=ds.length) (some 37) (Lv h1 (by assumption)) Tryz.underlying36 ?_
   refine CC 34 p (q + ((Ax ds a l)).1 * 21) [D ((ds.getD ((Ax ds a l)).1 default).kind),.string ⟨⟨(ds.getD ((Ax ds a l)).1 default).name⟩⟩,.bool ((ds.getD ((Ax ds a l)).1 default).tb),D ((ds.getD ((Ax ds a l)).1 default).tm),D ((ds.getD ((Ax ds a l)).1 default).th),D ((ds.getD ((Ax ds a l)).1 default).td),D ((ds.getD ((Ax ds a l)).1 default).frm),.slice w0 ((ds.getD ((Ax ds a l)).1 default).ents.length) r0,D ((ds.getD ((Ax ds a l)).1 default).body.op),D ((ds.getD ((Ax ds a l)).1 default).body.num),D ((ds.getD ((Ax ds a l)).1 default).body.den),D ((ds.getD ((Ax ds a l)).1 default).body.mu),D ((ds.getD ((Ax ds a l)).1 default).body.hu),D ((ds.getD ((Ax ds a l)).1 default).body.du),.string ⟨⟨(ds.getD ((Ax ds a l)).1 default).body.nm⟩⟩,D ((ds.getD ((Ax ds a l)).1 default).body.cnt),D ((ds.getD ((Ax ds a l)).1 default).body.md),.slice v0 ((ds.getD ((Ax ds a l)).1 default).body.ks.length) q0,D ((ds.getD ((Ax ds a l)).1 default).mode),D ((ds.getD ((Ax ds a l)).1 default).num),D ((ds.getD ((Ax ds a l)).1 default).den)] (some 38) (Ac e2 f1 p2.B) ?_
   refine AC kY p2 [] fun x2 v1=>?_
   refine Ap v1 (IK ((ds.getD ((Ax ds a l)).1 default)) w0 r0 v0 q0 x2 (m1.below v1.B) (k1.below v1.B)) fun q4 y3=>?_
   refine AC X1 y3 [] fun a2 m2=>?_
   refine AM (Bp ((ds.getD ((Ax ds a l)).1 default))) (fun r1=>?_) (fun r1=>?_)
   ·refine Cb Bb kX [⟨w.heap.size,0,[.string ⟨⟨v⟩⟩,.slice (some ⟨p,q,none⟩) ds.length m],38,true⟩,⟨b2.heap.size,0,(CW l z y),32,true⟩,⟨a2.heap.size,0,[D ((((Ax ds a l)).1:Int))],3,true⟩] m2 [] fun m4 x0=>?_
    refine Ch x0.H (x0.ix 1) (x0.at 1 rfl) (((Ax ds a l)).1) [D ((((Ax ds a l)).1:Int))] rfl (a2.heap.size) (x0.ent 2 (by kernel_rfl)) (DM kX) (by kernel_rfl) (.tmp 40) (.tmp 42) 56 (by kernel_rfl) (by kernel_rfl) (by kernel_rfl) (by decide) (by kernel_rfl) (by kernel_rfl) rfl rfl (by ((try simp only [maxLen,List.length_append,List.length_cons,List.length_nil,List.length_singleton]) <;> omega)) fun y1 q1 k4 Hn k3=>?_
    have x3:=x0.put 1 (by simp) k3 Hn
    refine AC (Aj X0) x3 [] fun v2 v3=>?_
    refine BB [(1,.slice c0 a.length k0),(3,.pointer (some ⟨w.heap.size,0,none⟩)),(6,.slice none 0 0),(7,D s),(8,.slice y1 ((b++[((Ax ds a l)).1]).length) q1),(19,.slice (some ⟨p0,0,none⟩) z7 o),(20,D (z5)),(21,D (IntKind.i64.wrap ((t:Int) + 1)))] fun e4=>?_
    have u3:Wk w v2 z4 [(Fe w (some ⟨p0,0,none⟩) o ((BV [] ((ds.getD i default).body)))),(BP y1 q1 (b++[((Ax ds a l)).1]))] []:=v3.pk [0] [0,1]
    rw [Bs t (by omega)]
    refine b0 _ _ ⟨t + 1,s,(b++[((Ax ds a l)).1]),y1,q1,e4,h0,rfl,by rw [x,a1,r1] <;> rfl,by ((try simp only [maxLen,List.length_append,List.length_cons,List.length_nil,List.length_singleton]) <;> omega),u3⟩ ?_
    show ((BV [] ((ds.getD i default).body))).length - AQ (D ((t + 1:Nat):Int)) < ((BV [] ((ds.getD i default).body))).length - AQ (D (t:Int))
    simp only [AQ]
    omega
   ·refine AC (Aj X0) m2 [] fun u2 t3=>?_
    refine BB [(1,.slice c0 a.length k0),(3,.pointer (some ⟨w.heap.size,0,none⟩)),(6,.slice none 0 0),(7,D s),(8,.slice j b.length f),(19,.slice (some ⟨p0,0,none⟩) z7 o),(20,D (z5)),(21,D (IntKind.i64.wrap ((t:Int) + 1)))] fun c4=>?_
    have s3:Wk w u2 z4 [(Fe w (some ⟨p0,0,none⟩) o ((BV [] ((ds.getD i default).body)))),(BP j f b)] []:=t3.pk [0] [0,1]
    rw [Bs t (by omega)]
    refine b0 _ _ ⟨t + 1,s,b,j,f,c4,h0,rfl,by rw [x,a1,r1] <;> rfl,by ((try simp only [maxLen,List.length_append,List.length_cons,List.length_nil,List.length_singleton]) <;> omega),s3⟩ ?_
    show ((BV [] ((ds.getD i default).body))).length - AQ (D ((t + 1:Nat):Int)) < ((BV [] ((ds.getD i default).body))).length - AQ (D (t:Int))
    simp only [AQ]
    omega
 ·have h2:t=(BV [] ((ds.getD i default).body)).length:=by have:=of_decide_eq_false s1; omega
  rw [h2,List.drop_length,Rh] at x
  refine AC kW y0 [] fun t2 l2=>?_
  have Kf:=(l2.pickL (L':=[(BP j f b)]++[z6]) [1,0] rfl (by decide)).front
  refine CJ (args:=[.slice j b.length f]) (gU _ j b f w t2 (by omega) l2.B Kf) fun en i4 hh=>?_
  obtain ⟨rfl,i3,Hn⟩:=hh
  refine ⟨_,rfl,?_⟩
  have r3:=Wk.unfront i3 Hn
  refine AC kV r3 [] fun s2 k2=>?_
  have Kf:=(k2.pickL (L':=[(BP j f (GH b))]++[z6]) [0,1] rfl (by decide)).front
  refine CJ (args:=[.slice j b.length f]) (VZ _ j (GH b) f w s2 (by simp only [KT]; omega) (KT _) k2.B Kf) fun en h4 hh=>?_
  obtain ⟨z0,t0,rfl,h3,Hn⟩:=hh
  refine ⟨_,rfl,?_⟩
  have q3:=Wk.unfront h3 Hn
  refine AC tG q3 [] fun g4 t1=>?_
  have hS:(DS ds a i)=((Ew (GH b)),0):=by rw [x] <;> rfl
  exact Ab t1 (0,0) (.tuple #[.slice z0 (((Ew (GH b))).length) t0,D 0]) ⟨z0,t0,by rw [hS] <;> rfl,t1.B,by rw [hS]; exact t1.own0 [0] rfl (by decide)⟩
end
end Go.Proofs.YtmcpjkcggfmcmaaGreatDoor
namespace Go.Proofs.YtmcpjkcggfmcmaaGreatDoor
open Go.RowKit
set_option maxRecDepth 100000
set_option maxHeartbeats 600000
set_option linter.unusedSectionVars false
structure AY (α β:Type) where
 k:TypeId
 e:TypeId
 t:TypeId
 kv:α→Value
 kl:α→Lit
 ka:α→Prop
 ev:β→Value
 ea:β→Prop
 z:β
 R:Value→Option (DataW Unit×List MemPlace)
 code:β→DataW Unit
 K:Maps.Keyed Tryz.prog k
 ht:Tryz.prog.underlying t=some (.map k e)
 key:∀ a,ka a→keyOf Tryz.prog k (kv a)=some (kl a)
 isKey:∀ a,WideAt.IsKeyLit (kl a)
 inj:∀ a b,kl a=kl b→a=b
 hz:∀ w,(zeroValue e).run Tryz.prog w=.ok (ev z) w
 za:ea z
 hR:∀ v,ea v→R (ev v)=some (code v,[])
 hinv:∀ x v ps,R x=some (code v,ps)→x=ev v
section
variable {α β:Type} [DecidableEq α] (S:AY α β)
def CA:List (α×β)→α→Option β
 | [],_=>none
 | p :: m,a=>if p.1=a then some p.2 else CA m a
def AY.dat:List (α×β)→DataW Unit
 | []=>.map []
 | p :: m=>(AY.dat m).put (S.kl p.1) (S.code p.2)
theorem AY.dat_map:∀ m:List (α×β),Maps.IsMap (S.dat m)
 | []=>⟨[],rfl⟩
 | p :: m=>by
  obtain ⟨es,h⟩:=AY.dat_map m
  unfold AY.dat
  rw [h]
  exact ⟨_,rfl⟩
theorem AY.dat_has:∀ (m:List (α×β)) (a:α),Maps.has (S.dat m) (S.kl a)=(CA m a).isSome
 | [],a=>rfl
 | p :: m,a=>by
  unfold AY.dat CA
  by_cases h:p.1=a
  ·subst h
   rw [if_pos rfl,Maps.has_put_same (S.dat_map m) (S.isKey _)]
   rfl
  ·rw [if_neg h,Maps.has_put_other (fun e=>h (S.inj _ _ e).symm),AY.dat_has m a]
theorem AY.dat_at:∀ (m:List (α×β)) (a:α),(S.dat m).atKey (S.kl a) (S.code S.z)=S.code ((CA m a).getD S.z)
 | [],a=>rfl
 | p :: m,a=>by
  unfold AY.dat CA
  by_cases h:p.1=a
  ·subst h
   rw [if_pos rfl,Maps.atKey_put_same (S.dat_map m) (S.isKey _)]
   rfl
  ·rw [if_neg h,Maps.atKey_put_other (fun e=>h (S.inj _ _ e).symm),AY.dat_at m a]
def AY.at (b:Nat) (m:List (α×β)) (w:World):Prop:=w.ownsMap Tryz.prog S.k S.R b m.length (S.dat m)
theorem AY.at_fr {b:Nat} {m:List (α×β)} {w w':World} (h:S.at b m w) (hb:b < w.heap.size→w'.heap[b]?=w.heap[b]?):S.at b m w':=by
 have hl:=World.ownsMap.lt h
 obtain ⟨es,a,c,h2⟩:=h
 exact ⟨es,a,(hb hl).trans c,h2⟩
def AY.th (b:Nat) (m:List (α×β)):Th:=⟨(·=b),S.at b m,fun _ _ h _ hk=>S.at_fr h (hk b rfl)⟩
theorem AY.look {b:Nat} {m:List (α×β)} {w:World} (h:S.at b m w) (a:α) (ha:S.ka a):(Instr.lookup S.t (.map (some b)) (S.kv a) false).run Tryz.prog w=.ok (S.ev ((CA m a).getD S.z)) w:=by
 obtain ⟨v,d,c,h2⟩:=World.ownsMap.lookup h S.K S.ht (S.hz w) (S.hR _ S.za) (S.key a ha)
 rw [S.dat_at] at h2
 rw [c,S.hinv _ _ _ h2]
theorem AY.look2 {b:Nat} {m:List (α×β)} {w:World} (h:S.at b m w) (a:α) (ha:S.ka a):(Instr.lookup S.t (.map (some b)) (S.kv a) true).run Tryz.prog w=.ok (.tuple #[S.ev ((CA m a).getD S.z),.bool (CA m a).isSome]) w:=by
 obtain ⟨v,d,c,h2⟩:=World.ownsMap.look_ok h S.K S.ht (S.hz w) (S.hR _ S.za) (S.key a ha)
 rw [S.dat_at] at h2
 rw [c,S.hinv _ _ _ h2,S.dat_has]
theorem AY.store {b:Nat} {m:List (α×β)} {w:World} (h:S.at b m w) (a:α) (v:β) (ha:S.ka a) (hv:S.ea v) (hm:m.length < maxLen):∃ w',(Instr.mapUpdate S.t (.map (some b)) (S.kv a) (S.ev v)).run Tryz.prog w=.ok () w'∧S.at b ((a,v) :: m) w'∧w.grownBy w' (some b):=by
 obtain ⟨w',d,h2,c⟩:=World.ownsMap.update h S.K S.ht hm (S.key a ha) (S.hR v hv)
 exact ⟨w',d,h2,c⟩
end
section
variable {α β:Type} [DecidableEq α] (S:AY α β) {o:Oper} {ρ:Operand→Value} {w:World}
theorem HQ {t:TypeId} {x y:Operand} (hop:o.op=.lookup t x y false) (ht:t=S.t) {b:Nat} {m:List (α×β)} (d:ρ x=.map (some b)) (a:α) (c:ρ y=S.kv a) (ha:S.ka a) (h:S.at b m w):(execOp ρ o).run Tryz.prog w=.ok (.value (S.ev ((CA m a).getD S.z))) w:=by
 subst ht
 have:=S.look h a ha
 unfold execOp
 simp only [hop,d,c]
 rw [Sem.run_bind,this]
 rfl
theorem Pq {t:TypeId} {x y:Operand} (hop:o.op=.lookup t x y true) (ht:t=S.t) {b:Nat} {m:List (α×β)} (d:ρ x=.map (some b)) (a:α) (c:ρ y=S.kv a) (ha:S.ka a) (h:S.at b m w):(execOp ρ o).run Tryz.prog w=.ok (.value (.tuple #[S.ev ((CA m a).getD S.z),.bool (CA m a).isSome])) w:=by
 subst ht
 have:=S.look2 h a ha
 unfold execOp
 simp only [hop,d,c]
 rw [Sem.run_bind,this]
 rfl
end
section
variable {α β:Type} [DecidableEq α] (S:AY α β) {fi:FuncId} {R:Ending→World→Prop} {k:Nat} {td:List Item} {E:Nat→Value} {b:Nat} {L:List Th} {w:World}
theorem RL {P:Program} {f:FuncId} {R:Ending→World→Prop} {n:Nat} {todo:List Item} {E:Nat→Value} {w w':World} (o:Oper) (hc:FY n E todo=some o) (a:(execOp (BN n E) o).run P w=.ok .skip w') (h:At P f R (AE todo) (Fr n (Bc E o.dst undef)) w'):At P f R todo (Fr n E) w:=by
 unfold FY at hc
 split at hc
 ·rename_i ops i r k
  split at hc
  ·rename_i o' ho
   split at hc
   ·rename_i hw
    obtain rfl:=Option.some.inj hc
    refine FU ho (by rw [Ez]; exact hw) ?_
    unfold Oper.wp
    rw [Cm,a]
    show wpOps P ops _ r ((Fr n E).put o'.dst undef) w'
    rw [Dy]
    exact h
   ·cases hc
  ·cases hc
 ·cases hc
theorem JE (H:AU b w L) (o:Oper) (hc:FY k E td=some o) {t:TypeId} (ho:o.op=.makeMap t none)
  (f:∀ w',w'.heap.size=w.heap.size + 1→AU b w' (L++[S.th w.heap.size []])→Below b w w'→At Tryz.prog fi R (AE td) (Fr k (Bc E o.dst (.map (some w.heap.size)))) w'):At Tryz.prog fi R td (Fr k E) w:=by
 have e:(execOp (BN k E) o).run Tryz.prog w=.ok (.value (.map (some w.heap.size))) (w.alloc (.map #[] 0)):=by
  unfold execOp
  simp only [ho]
  rfl
 have d:Below w.heap.size w (w.alloc (.map #[] 0)):=⟨rfl,rfl,rfl,by simp,fun q a=>D8 w _ q a⟩
 refine NP o hc e (f _ (by simp) (H.join d ⟨by simp,fun i t hi=>?_,fun i t hi q a=>?_,fun i j s t hi g c=>?_⟩) (d.mono H.base))
 ·cases i with
  | zero=>obtain rfl:=Option.some.inj hi; exact World.ownsMap_made w Tryz.prog S.k S.R
  | succ i=>simp at hi
 ·cases i with
  | zero=>
   obtain rfl:=Option.some.inj hi
   obtain rfl:q=w.heap.size:=a
   simp
  | succ i=>simp at hi
 ·cases i with
  | zero=>cases j with
   | zero=>exact absurd rfl c
   | succ j=>simp at g
  | succ i=>simp at hi
theorem RM (H:AU b w L) (i:Nat) {g:Nat} {m:List (α×β)} (hi:L[i]?=some (S.th g m)) (a:α) (v:β) (ha:S.ka a) (hv:S.ea v) (o:Oper) (hc:FY k E td=some o) {t:TypeId} {x y z:Operand} (ho:o.op=.mapUpdate t x y z) (ht:t=S.t)
  (h:BN k E x=.map (some g)) (f:BN k E y=S.kv a) (hz:BN k E z=S.ev v) (hm:m.length < 100000000000)
  (j:∀ w',AU b w' (L.set i (S.th g ((a,v) :: m)))→Below b w w'→At Tryz.prog fi R (AE td) (Fr k (Bc E o.dst undef)) w'):At Tryz.prog fi R td (Fr k E) w:=by
 subst ht
 obtain ⟨w',l,h2,c⟩:=S.store (H.all i _ hi) a v ha hv (by unfold maxLen; omega)
 have hl:=(H.lo i _ hi g rfl)
 have e:(execOp (BN k E) o).run Tryz.prog w=.ok .skip w':=by
  unfold execOp
  simp only [ho,h,f,hz]
  rw [Sem.run_bind,l]
  rfl
 refine RL o hc e (j w' (H.set i hi c.size h2 (fun q d=>?_) (fun q d hf=>c.block q d fun he=>hf (Option.some.inj he))) ⟨c.os,c.tape,c.output,c.size,fun q d=>c.block q (Nat.lt_of_lt_of_le d H.base) fun he=>?_⟩)
 ·obtain rfl:q=g:=d
  exact ⟨World.ownsMap.lt h2,.inl rfl⟩
 ·have:=Option.some.inj he
  omega
end
theorem SN {a:Int} (b:-9223372036854775808≤a) (h2:a≤9223372036854775807):(Lit.int .i64 a).wf=true:=by
 have d:IntKind.i64.min=-9223372036854775808:=by decide
 have c:IntKind.i64.max=9223372036854775807:=by decide
 show (decide (IntKind.i64.min≤a) && decide (a≤IntKind.i64.max))=true
 rw [d,c,decide_eq_true b,decide_eq_true h2]
 rfl
noncomputable def BL:AY (List UInt8) Int where
 k:=9
 e:=3
 t:=73
 kv s:=.string ⟨⟨s⟩⟩
 kl s:=.string s
 ka s:=s.length≤4294967296
 ev n:=.int .i64 n
 ea n:=-9223372036854775808≤n∧n≤9223372036854775807
 z:=0
 R:=plainElem Tryz.prog 3
 code n:=.lit (.int .i64 n)
 K:=Maps.string_keyed Tryz.underlying9
 ht:=Tryz.underlying73
 key a ha:=WideMaps.keyOf_string_mk Tryz.underlying9 (by show a.length≤maxLen; unfold maxLen; omega)
 isKey _:=trivial
 inj a b h:=by injection h
 hz w:=Tryz.zeroValue3 w
 za:=by decide
 hR v hv:=plainElem_int Tryz.underlying3 (SN hv.1 hv.2)
 hinv x v ps h:=by
  obtain ⟨a,rfl,h2,_⟩:=plainElem_int_inv Tryz.underlying3 h
  simp only [Prod.mk.injEq,DataW.lit.injEq,Lit.int.injEq,true_and] at h2
  rw [h2.1]
noncomputable def Ht:AY Nat Bool where
 k:=3
 e:=4
 t:=149
 kv n:=.int .i64 (n:Int)
 kl n:=.int .i64 n
 ka n:=n≤4294967296
 ev b:=.bool b
 ea _:=True
 z:=false
 R v:=match v with | .bool x=>some (.lit (.bool x),[]) | _=>none
 code b:=.lit (.bool b)
 K:=Maps.int_keyed Tryz.underlying3
 ht:=Tryz.underlying149
 key a ha:=Maps.keyOf_int_mk Tryz.underlying3 (SN (by omega) (by omega))
 isKey _:=trivial
 inj a b h:=by injection h with h1 h2; exact Int.ofNat.inj h2
 hz w:=Tryz.zeroValue4 w
 za:=trivial
 hR _ _:=rfl
 hinv x v ps h:=by
  split at h
  ·simp only [Option.some.injEq,Prod.mk.injEq,DataW.lit.injEq,Lit.bool.injEq] at h
   rw [h.1]
  ·cases h
abbrev uP:=Option Addr×Nat×Nat
def uO:Value→Option (DataW Unit×List MemPlace)
 | .slice none n c=>some (.agg [.nil,.lit (.int .i64 n),.lit (.int .i64 c)],[])
 | .slice (some ⟨g,o,none⟩) n c=>some (.agg [.lit (.int .i64 g),.lit (.int .i64 n),.lit (.int .i64 c),.lit (.int .i64 o)],[])
 | _=>none
noncomputable def KD:AY Nat uP where
 k:=3
 e:=56
 t:=106
 kv n:=.int .i64 (n:Int)
 kl n:=.int .i64 n
 ka n:=n≤4294967296
 ev v:=.slice v.1 v.2.1 v.2.2
 ea v:=∀ a,v.1=some a→a.spot=none
 z:=(none,0,0)
 R:=uO
 code v:=match v.1 with
  | none=>.agg [.nil,.lit (.int .i64 v.2.1),.lit (.int .i64 v.2.2)]
  | some ⟨g,o,none⟩=>.agg [.lit (.int .i64 g),.lit (.int .i64 v.2.1),.lit (.int .i64 v.2.2),.lit (.int .i64 o)]
  | some ⟨_,_,some _⟩=>.agg []
 K:=Maps.int_keyed Tryz.underlying3
 ht:=Tryz.underlying106
 key a ha:=Maps.keyOf_int_mk Tryz.underlying3 (SN (by omega) (by omega))
 isKey _:=trivial
 inj a b h:=by injection h with h1 h2; exact Int.ofNat.inj h2
 hz w:=Tryz.zeroValue56 w
 za a h:=by cases h
 hR v hv:=by
  obtain ⟨A,n,c⟩:=v
  cases A with
  | none=>rfl
  | some a=>
   obtain ⟨g,o,s⟩:=a
   obtain rfl:s=none:=hv _ rfl
   rfl
 hinv x v ps h:=by
  obtain ⟨A,n,c⟩:=v
  unfold uO at h
  split at h
  ·cases A with
   | none=>simp at h; simp; omega
   | some a=>
    obtain ⟨g,o,s⟩:=a
    cases s <;> simp at h
  ·cases A with
   | none=>simp at h
   | some a=>
    obtain ⟨g,o,s⟩:=a
    cases s with
    | none=>simp at h; simp; omega
    | some s=>simp at h
  ·cases h
def II:Op→Bool
 | .makeMap _ _=>true
 | _=>false
def FJ:Op→Bool
 | .lookup _ _ _ _=>true
 | _=>false
def PZ:Op→Bool
 | .mapUpdate _ _ _ _=>true
 | _=>false
def Th.all (us:List Th):Th:=⟨fun k=>∃ u∈us,u.F k,fun w=>∀ u∈us,u.P w,fun w w' h hs hk u hu=>u.fr w w' (h u hu) hs fun k hf hl=>hk k ⟨u,hu,hf⟩ hl⟩
theorem AU.absorb {β:Type} {b:Nat} {w:World} {L:List Th} (h:AU b w L) (i j:Nat) (f:β→Th) (xs l:List β) (x:β) (hi:L[i]?=some (Th.all (xs.map f))) (v:L[j]?=some (f x)) (f0:i≠j) (hy:∀ z,z∈l↔z=x∨z∈xs):AU b w ((L.set i (Th.all (l.map f))).eraseIdx j):=by
 have hl:i < L.length:=(List.getElem?_eq_some_iff.1 hi).1
 have c:∀ k,(Th.all (l.map f)).F k→(Th.all (xs.map f)).F k∨(f x).F k:=fun k ⟨u,hu,hf⟩=>by
  obtain ⟨z,hz,rfl⟩:=List.mem_map.1 hu
  rcases (hy z).1 hz with rfl | hz
  ·exact .inr hf
  ·exact .inl ⟨_,List.mem_map.2 ⟨z,hz,rfl⟩,hf⟩
 have hP:(Th.all (l.map f)).P w:=fun u hu=>by
  obtain ⟨z,hz,rfl⟩:=List.mem_map.1 hu
  rcases (hy z).1 hz with rfl | hz
  ·exact h.all j _ v
  ·exact h.all i _ hi _ (List.mem_map.2 ⟨z,hz,rfl⟩)
 have hg:∀ (q:Nat) (t:Th),((L.set i (Th.all (l.map f))).eraseIdx j)[q]?=some t→∃ a,a≠j∧a=(if q < j then q else q + 1)∧((a=i∧t=Th.all (l.map f))∨(a≠i∧L[a]?=some t)):=fun q t ht=>by
  rw [List.getElem?_eraseIdx] at ht
  refine ⟨_,?_,rfl,?_⟩
  ·split <;> omega
  ·split at ht <;> rename_i hq <;> simp only [hq,if_true,if_false] <;> rw [List.getElem?_set] at ht <;> split at ht
   ·rename_i he; exact .inl ⟨he.symm,(Option.some.inj ht).symm⟩
   ·rename_i he; exact .inr ⟨fun e=>he e.symm,ht⟩
   ·rename_i he; exact .inl ⟨he.symm,(Option.some.inj ht).symm⟩
   ·rename_i he; exact .inr ⟨fun e=>he e.symm,ht⟩
 refine ⟨h.base,fun q t ht=>?_,fun q t ht k hf=>?_,fun p q s t hs ht b0 k hf g=>?_⟩
 ·obtain ⟨a,_,_,⟨_,rfl⟩ | ⟨_,h2⟩⟩:=hg q t ht
  ·exact hP
  ·exact h.all _ _ h2
 ·obtain ⟨a,_,_,⟨_,rfl⟩ | ⟨_,h2⟩⟩:=hg q t ht
  ·rcases c k hf with d | d
   ·exact h.lo i _ hi k d
   ·exact h.lo j _ v k d
  ·exact h.lo _ _ h2 k hf
 ·obtain ⟨r,e0,d0,c0⟩:=hg p s hs
  obtain ⟨a,a0,y,m⟩:=hg q t ht
  have n:r≠a:=fun e=>b0 (by rw [d0,y] at e; split at e <;> split at e <;> omega)
  rcases c0 with ⟨e1,rfl⟩ | ⟨e1,h1⟩
  ·rcases m with ⟨o,_⟩ | ⟨o,h2⟩
   ·exact n (e1.trans o.symm)
   ·rcases c k hf with d | d
    ·exact h.apart i a _ _ hi h2 (fun e=>o e.symm) k d g
    ·exact h.apart j a _ _ v h2 (fun e=>a0 e.symm) k d g
  ·rcases m with ⟨o,rfl⟩ | ⟨o,h2⟩
   ·rcases c k g with d | d
    ·exact h.apart i r _ _ hi h1 (fun e=>e1 e.symm) k d hf
    ·exact h.apart j r _ _ v h1 (fun e=>e0 e.symm) k d hf
   ·exact h.apart r a _ _ h1 h2 n k hf g
theorem Wk.take {β:Type} {w0 w:World} {M:List BI} {L T:List Th} (K:Wk w0 w M L T) (i j:Nat) (f:β→Th) (xs a:List β) (x:β) (hi:L[i]?=some (Th.all (xs.map f))) (d:L[j]?=some (f x)) (g:i≠j) (e:∀ z,z∈a↔z=x∨z∈xs):Wk w0 w M ((L.set i (Th.all (a.map f))).eraseIdx j) T:=by
 have b:j < L.length:=(List.getElem?_eq_some_iff.1 d).1
 have c:i < L.length:=(List.getElem?_eq_some_iff.1 hi).1
 refine ⟨K.B,?_⟩
 have h:=K.H.absorb (K.ix i) (K.ix j) f xs a x (K.at i hi) (K.at j d) (by unfold Wk.ix; omega) e
 unfold Wk.ix at h
 rw [List.set_append,if_neg (by simp),List.length_map,Nat.add_sub_cancel_left,List.set_append,if_pos c,List.eraseIdx_append_of_length_le (by simp),List.length_map,Nat.add_sub_cancel_left,List.eraseIdx_append_of_lt_length (by rw [List.length_set]; exact b)] at h
 exact h
end Go.Proofs.YtmcpjkcggfmcmaaGreatDoor

/- Contracts of functions, part 13. -/
import Derived.Test.YtkpemkkbjfbmaaaGreatMc12
import Derived.Test.YtkpemkkbjfbmaaaGreatMc11
set_option linter.all false
namespace Go.Proofs.YtkpemkkbjfbmaaaGreat
open List
noncomputable section
open Go.RowKit
set_option maxRecDepth 100000
set_option maxHeartbeats 1000000
abbrev Ty:=Bool×Int×Int×Int
def BT:Ty:=(false,0,0,0)
def Cb:Ty:=(false,1,0,0)
def Dn:Ty:=(false,0,1,0)
def CH:Ty:=(false,1,-1,0)
def DB:Ty:=(true,0,0,0)
def Ek:List Ty:=[BT,Cb,Dn,CH,DB]
def L7:List Ty:=[BT,Cb,Dn,CH]
def Hg (a b:Ty):Bool:=a.1==b.1&&(a.2.1==b.2.1&&(a.2.2.1==b.2.2.1&&a.2.2.2==b.2.2.2))
def G5:List (Int×Int):=[(1,1),(2,1),(0,1),(5,2),(1,4),(76,5),(40,1),(1,100),(3,1),(100,1)]
def PX:List (Int×Int):=[(1,1),(1,100),(1,4)]
def LG (t:Ty) (n:Int):List (List UInt8):=cond (Hg t DB) ([102]::cond (decide (3<n)) [[114,51]] []) (cond (Hg t Cb) (cond (decide (2<n)) [[114,50]] []++cond (decide (4<n)) [[97]] []) (cond (Hg t Dn) [[104]] (cond (Hg t CH) (cond (decide (1<n)) [[114,49]] []) ([103]::cond (decide (4<n)) [[114,52]] []))))
def Nd (op:Int) (t t1 t2:Ty):Prop:=
 ((op=9\/op=10\/op=11)/\t=DB/\t1=t2/\t1∈L7)\/((op=11\/op=12\/op=13)/\t=DB/\t1=DB/\t2=DB)\/
 ((op=5\/op=6\/op=14\/op=15)/\t.1=false/\t1=t/\t2=t)\/((op=7\/op=8)/\t.1=false/\t1=t/\t2=BT)\/
 (op=7/\t=Cb/\t1=Dn/\t2=CH)\/(op=8/\t=CH/\t1=Cb/\t2=Dn)\/(op=8/\t=BT/\t1=t2/\t1∈L7)\/(op=8/\t=Dn/\t1=Cb/\t2=CH)
inductive DL (n:Int):Nat->Ty->Ex->Prop
 | tru (h:Nat) (c:Int) (hc:c=0\/c=1):DL n (h+1) DB (.mk 2 0 0 0 0 0 [] c 0 [])
 | name (h:Nat) (t:Ty) (nm:List UInt8) (hm:nm∈LG t n):DL n (h+1) t (.mk 3 0 0 0 0 0 nm 0 0 [])
 | past (h:Nat) (t:Ty) (nm:List UInt8) (op c:Int) (ht:(t=Cb/\nm=[103,114,111,115,115])\/(t=Dn/\nm=[116,105,109,101])) (hop:op=20\/op=21) (h1:1<=c) (h3:c<=3):DL n (h+1) t (.mk op 0 0 0 0 0 nm c 0 [])
 | num (h:Nat) (t:Ty) (q:Int×Int) (ht:t.1=false) (h5:t∈Ek) (hq:q∈G5):DL n (h+1) t (.mk 1 q.1 q.2 t.2.1 t.2.2.1 t.2.2.2 [] 0 0 [])
 | not (h:Nat) (x:Ex) (hx:DL n h DB x):DL n (h+1) DB (.mk 17 0 0 0 0 0 [] 0 0 [x])
 | neg (h:Nat) (t:Ty) (x:Ex) (ht:t.1=false) (hx:DL n h t x):DL n (h+1) t (.mk 16 0 0 0 0 0 [] 0 0 [x])
 | round (h:Nat) (t:Ty) (x:Ex) (q:Int×Int) (m:Int) (ht:t.1=false) (hq:q∈PX) (m0:0<=m) (m6:m<=6) (hx:DL n h t x):DL n (h+1) t (.mk 19 q.1 q.2 t.2.1 t.2.2.1 t.2.2.2 [] 0 m [x])
 | scale (h:Nat) (t:Ty) (nm:List UInt8) (x:Ex) (ht:(t=CH/\nm=[119])\/(t=BT/\nm=[115])) (hx:DL n h BT x):DL n (h+1) t (.mk 4 0 0 0 0 0 nm 0 0 [x])
 | two (h:Nat) (op:Int) (t t1 t2:Ty) (x y:Ex) (ht:Nd op t t1 t2) (hx:DL n h t1 x) (hy:DL n h t2 y):DL n (h+1) t (.mk op 0 0 0 0 0 [] 0 0 [x,y])
 | ite (h:Nat) (t:Ty) (x y z:Ex) (hx:DL n h DB x) (hy:DL n h t y) (hz:DL n h t z):DL n (h+1) t (.mk 18 0 0 0 0 0 [] 0 0 [x,y,z])
def LY (b:Nat) (ns:List Int) (n:Int) (h:Nat) (t:Ty) (w:World) (e:Ending) (w':World):Prop:=∃x A c,e=.returned (D (Ad x A c))/\DL n h t x/\DD (λg=>w.heap.size<=g) w' x (Ad x A c)/\Br b ns w'/\CU b w w'
def FW (lo hi:Nat) (xs:List (Ex×List Value)):Th where
 F k:=lo<=k/\k<hi
 P u:=hi<=(U u)/\∀p∈xs,DD (λg=>lo<=g/\g<hi) u p.1 p.2
 fr u u' h hs hk:=⟨Nat.le_trans h.1 hs,λp hp=>DD.keep hs (λg hg hl=>⟨hg,hk g hg hl⟩) _ _ (h.2 p hp)⟩
theorem Wk.freshT {w0 w u:World} {M:List Ax} {L T:List Th} (K:Wk w0 w M L T) (b:Wk w0 u M L T) (z:Th) (l:z.P u) (c:∀k,z.F k->w.heap.size<=k/\k<(U u)):Wk w0 u M (L++[z]) T:=by
 have d:(U w0)<=(U w):=K.B.size;refine b.add (Below.refl _ _) ⟨b.H.base,λi t hi=>?_,λi t hi k e=>?_,λi j s t hi a f k hs ht=>?_⟩
 ·rcases D7 hi with hi | ⟨_,hi⟩
  ·exact b.H.all i t hi
  cases hq:i-(List.map Th.ent M++(L++T)).length with
  | zero=>
   rw[hq]at hi;obtain rfl:=Option.some.inj hi;exact l
  | succ q=>rw[hq]at hi;simp at hi
 ·rcases D7 hi with hi | ⟨_,hi⟩
  ·exact b.H.lo i t hi k e
  cases hq:i-(List.map Th.ent M++(L++T)).length with
  | zero=>
   rw[hq]at hi;obtain rfl:=Option.some.inj hi;exact⟨Nat.le_trans d (c k e).1,(c k e).2⟩
  | succ q=>rw[hq]at hi;simp at hi
 rcases D7 hi with hi | ⟨h,hi⟩
 ·rcases D7 a with a | ⟨_,a⟩
  ·exact b.H.apart i j s t hi a f k hs ht
  cases hq:j-(List.map Th.ent M++(L++T)).length with
  | zero=>
   rw[hq]at a;obtain rfl:=Option.some.inj a;have:=(K.H.lo i s hi k hs).2;have:=(c k ht).1;omega
  | succ q=>rw[hq]at a;simp at a
 rcases D7 a with a | ⟨g,a⟩
 ·cases hq:i-(List.map Th.ent M++(L++T)).length with
  | zero=>
   rw[hq]at hi;obtain rfl:=Option.some.inj hi;have:=(K.H.lo j t a k ht).2;have:=(c k hs).1;omega
  | succ q=>rw[hq]at hi;simp at hi
 have m:i-(List.map Th.ent M++(L++T)).length=0:=by
  cases hq:i-(List.map Th.ent M++(L++T)).length with
  | zero=>rfl
  | succ q=>rw[hq]at hi;simp at hi
 have h2:j-(List.map Th.ent M++(L++T)).length=0:=by
  cases hq:j-(List.map Th.ent M++(L++T)).length with
  | zero=>rfl
  | succ q=>rw[hq]at a;simp at a
 omega
theorem Wk.trees {w0 w u:World} {M:List Ax} {L T:List Th} (K:Wk w0 w M L T) (c:Wk w0 u M L T) (hs:(U w)<=(U u)) (xs:List (Ex×List Value)) (h:∀p∈xs,DD (λg=>w.heap.size<=g) u p.1 p.2):Wk w0 u M (L++[FW (U w) (U u) xs]) T:=
 K.freshT c (FW (U w) (U u) xs) ⟨Nat.le_refl _,λp a=>DD.keep (Nat.le_refl _) (λg hg hl=>⟨⟨hg,hl⟩,rfl⟩) _ _ (h p a)⟩ λ_ b=>b
def CO (lo:Nat) (n:Int) (h:Nat) (t:Ty) (v:Value) (u:World):Prop:=∃x A c,v=D (Ad x A c)/\DL n h t x/\DD (λg=>lo<=g) u x (Ad x A c)
theorem CO.but {b lo:Nat} {n:Int} {h:Nat} {t:Ty} (hb:b<lo):∀v u a,CU b u a->CO lo n h t v u->CO lo n h t v a:=λv u a he ⟨x,A,c,e,h2,d⟩=>⟨x,A,c,e,h2,DD.keep he.size (λg hg hl=>⟨hg,he.block g hl (by omega)⟩) _ _ d⟩
def KC (n:Nat) (v:Value) (_:World):Prop:=∃k:Nat,k<n/\v=J (k:Int)
def Lg (xs:List Int) (v:Value) (_:World):Prop:=∃x∈xs,v=J x
def Fm (b:Nat) (cs:List Value) (T:TypeId) (k:Nat) (v:Value) (u:World):Prop:=∃g,v=φ g k k/\g≠b/\Ax.good u ⟨g,0,cs,T,true⟩
theorem Fm.but {b:Nat} {cs:List Value} {T:TypeId} {k:Nat}:∀v u a,CU b u a->Fm b cs T k v u->Fm b cs T k v a:=λv u a he ⟨g,d,h2,c⟩=>⟨g,d,h2,FT c he.size (he.block g c.1 h2)⟩
theorem Py {w:World} {e:Ax} (h:e.good w):w.rangeAt e.id e.off e.cells:=λ_ _ hv=>FI h hv rfl rfl rfl
theorem Oh {S:Nat->Prop} {w:World} {e:Ex} {A:Option Addr} {c:Nat} {ks:List (List Value)} (a:Fb S w e.ks ks) (h2:DF S w 10 A ks):DD S w e (Ad e A c):=by
 cases e with
 | mk a1 a2 a3 a4 a5 a6 a7 a8 a9 kids=>
  unfold DD;exact⟨A,c,ks,rfl,a,h2⟩
theorem S3 {S:Nat->Prop} {w:World} {g:Nat} {T:TypeId} {ks:List (List Value)} (b:S g) (hn:∀r∈ks,r.length=10) (h:Ax.good w ⟨g,0,ks.flatten,T,true⟩):DF S w 10 (θ g) ks:=by
 rcases Db hn h with a | ⟨c,off,a,_,h2⟩
 ·exact .inl a
 obtain⟨rfl,rfl⟩:g=c/\0=off:=by simpa using a
 exact .inr ⟨g,0,rfl,b,h2⟩
attribute [local irreducible] BI BQ AD AE AG Au Ab AO A8 Bi Ct BX EH DW BO At Fr
noncomputable def Zz:Code:=Tryz.f21.body.getD .skip
def ADZ:=ν [.code Zz]
theorem Hf (w:World):Calls Tryz.prog 21 ([]:List Value).toArray w λe w'=>e=.returned (D (BE BT))/\Below (U w) w w':=by refine AS (fn:=Tryz.f21) (c:=Zz) (n:=2) ?_;refine An ADZ [N (U w) (BE BT) 65] (Wk.start w) [(0,0)] λb a=>?_;exact AN a (0,0) (D (BE BT)) ⟨rfl,a.B⟩
noncomputable def Zy:Code:=Tryz.f18.body.getD .skip
def ADY:=ν [.code Zy]
theorem Gw (w:World):Calls Tryz.prog 18 ([]:List Value).toArray w λe w'=>e=.returned (D (BE Cb))/\Below (U w) w w':=by refine AS (fn:=Tryz.f18) (c:=Zy) (n:=3) ?_;refine An ADY [N (U w) (BE Cb) 65] (Wk.start w) [(0,0)] λb a=>?_;exact AN a (0,0) (D (BE Cb)) ⟨rfl,a.B⟩
noncomputable def Zx:Code:=Tryz.f16.body.getD .skip
def ADX:=ν [.code Zx]
theorem Iv (w:World):Calls Tryz.prog 16 ([]:List Value).toArray w λe w'=>e=.returned (D (BE Dn))/\Below (U w) w w':=by refine AS (fn:=Tryz.f16) (c:=Zx) (n:=3) ?_;refine An ADX [N (U w) (BE Dn) 65] (Wk.start w) [(0,0)] λb a=>?_;exact AN a (0,0) (D (BE Dn)) ⟨rfl,a.B⟩
noncomputable def Zw:Code:=Tryz.f20.body.getD .skip
def ADW:=ν [.code Zw]
theorem Gv (w:World):Calls Tryz.prog 20 ([]:List Value).toArray w λe w'=>e=.returned (D (BE CH))/\Below (U w) w w':=by refine AS (fn:=Tryz.f20) (c:=Zw) (n:=3) ?_;refine An ADW [N (U w) (BE CH) 65] (Wk.start w) [(0,0)] λb a=>?_;exact AN a (0,0) (D (BE CH)) ⟨rfl,a.B⟩
noncomputable def Zv:Code:=Tryz.f17.body.getD .skip
def ADV:=ν [.code Zv]
theorem La (w:World):Calls Tryz.prog 17 ([]:List Value).toArray w λe w'=>e=.returned (D (BE DB))/\Below (U w) w w':=by refine AS (fn:=Tryz.f17) (c:=Zv) (n:=2) ?_;refine An ADV [N (U w) (BE DB) 65] (Wk.start w) [(0,0)] λb a=>?_;exact AN a (0,0) (D (BE DB)) ⟨rfl,a.B⟩
noncomputable def aO:Code:=Tryz.f44.body.getD .skip
def cR:=ν [.code aO]
def sR:=AB (Aq (Aa) 90 (AD cR)) (AD cR)
def AED:=ν (AD (AD sR))
theorem Ji (b:Nat) (ns:List Int) (g:Nat) (xs:List Int) (c:Nat) (w:World) (r:Br b ns w) (hg:g≠b) (hx:0<xs.length) (hm:xs.length<=1000) (hr:Ax.good w (N g (xs.map (Value.int .i64)) 3)) :
  Calls Tryz.prog 44 ([Z b,φ g xs.length c]:List Value).toArray w λe w'=>∃x∈xs,e=.returned (J x)/\Br b ns w'/\CU b w w':=by
 refine AS (fn:=Tryz.f44) (c:=aO) (n:=12) ?_;obtain⟨w0,f,o⟩:=Wk.tape r;have i:=o.B;refine AC cR o [] λp m=>?_;refine BS m f 0 rfl (Be b ns xs.length p (m.tapeOk f 0 rfl) (by omega) (by omega)) Bl.ok λe v q s=>?_;obtain⟨k,y,rfl,_,_⟩:=q;refine⟨_,rfl,?_⟩;have d:k<xs.length:=by omega
 obtain⟨x,a⟩:∃x,xs[k]?=some x:=⟨_,getElem?_eq_getElem d⟩;refine Ao Aa sR s [] λu l=>?_;have hb:=(l.out f i).2;have h:=FT hr hb.size (hb.block g hr.1 hg);refine Aw (g:=g) (off:=0) (cap:=c) (sz:=1) (k:=k) (len:=xs.length) (some 10) d Tryz.underlying22 ?_;have hc:=Py h k (J x) (by rw[getElem?_map,a];rfl);refine EF 3 g (0+k*1) (J x) (some 11) (by simpa using hc) ?_;refine AC AED l [] λt j=>?_;exact AN j (0,0) (J x) ⟨x,mem_of_getElem? a,rfl,j.out f i⟩
noncomputable def aT:Code:=Tryz.f40.body.getD .skip
def ck:=ν [.code aT]
def si:=AB (Aq (Aa) 90 (AD ck)) (AD ck)
def AEP:=ν (AD (AD si))
theorem ACw (b:Nat) (ns:List Int) (w:World) (hT:Br b ns w):Calls Tryz.prog 40 ([.pointer (some ⟨b,0,none⟩)]:List Value).toArray w λe w'=>∃q∈G5,e=.returned (.agg ⟨[J q.1,J q.2]⟩)/\Br b ns w'/\CU b w w':=by
 refine AS (fn:=Tryz.f40) (c:=aT) (n:=18) ?_;obtain⟨w0,h0,K0⟩:=Wk.tape hT;have hw:=K0.B;refine An ck [⟨w.heap.size,0,[J 0,J 0],47,true⟩,⟨w.heap.size+1,0,[J 1,J 1,J 2,J 1,J 0,J 1,J 5,J 2,J 1,J 4,J 76,J 5,J 40,J 1,J 1,J 100,J 3,J 1,J 100,J 1],47,true⟩] K0 [] λw1 K1=>?_;refine BS K1 h0 0 rfl (Be b ns 10 w1 (K1.tapeOk h0 0 rfl) (by omega) (by omega)) Bl.ok λe w2 hq K2=>?_;obtain⟨k,hk,rfl,_,_⟩:=hq;refine⟨_,rfl,?_⟩;have hkl:k<G5.length:=by show k<10;omega
 obtain⟨q,hqk⟩:∃x,G5[k]?=some x:=⟨_,getElem?_eq_getElem hkl⟩;refine Ao Aa si K2 [] λw3 K3=>?_;refine Aw (g:=w.heap.size+1) (off:=0) (cap:=10) (sz:=2) (k:=k) (len:=10) (some 16) hkl Tryz.underlying45 ?_;obtain⟨g,off,h1,_,h3⟩:=Cn.all (show Cn 2 (λq:Int×Int=>[J q.1,J q.2]) w3 (some ⟨w.heap.size+1,0,none⟩) G5 from Db (λr hr=>by obtain⟨e,_,rfl⟩:=mem_map.1 hr;rfl) (K3.ent 1 rfl)) (by decide);obtain⟨rfl,rfl⟩:w.heap.size+1=g/\0=off:=by simpa using h1
 refine Bd 47 (w.heap.size+1) (0+k*2) _ (some 17) (h3 k q hqk) ?_;refine An AEP [⟨w.heap.size,0,[J q.1,J q.2],47,true⟩,⟨w.heap.size+1,0,[J 1,J 1,J 2,J 1,J 0,J 1,J 5,J 2,J 1,J 4,J 76,J 5,J 40,J 1,J 1,J 100,J 3,J 1,J 100,J 1],47,true⟩] K3 [(0,0)] λw4 K4=>?_;exact AN K4 (0,0) (.agg ⟨[J q.1,J q.2]⟩) ⟨q,mem_of_getElem? hqk,rfl,K4.out h0 hw⟩
noncomputable def Zu:Code:=Tryz.f43.body.getD .skip
def ADU:=ν [.code Zu]
theorem Kr (op:Int) (x y:Ex) (A B:Option Addr) (c d:Nat) (w:World):Calls Tryz.prog 43 ([J op,D (Ad x A c),D (Ad y B d)]:List Value).toArray w λe w'=>∃g,e=.returned (D (Ad (.mk op 0 0 0 0 0 [] 0 0 [x,y]) (θ g) 2))/\Below (U w) w w'/\AY (U w) w' [Th.ent (N g ([Ad x A c,Ad y B d].flatten) 70)]:=by refine AS (fn:=Tryz.f43) (c:=Zu) (n:=12) ?_;refine An ADU [N (U w) (Ad x A c) 70,N (U w+1) (Ad y B d) 70,N (U w+2) (Ad (.mk op 0 0 0 0 0 [] 0 0 [x,y]) (some ⟨U w+3,0,none⟩) 2) 70,N (U w+3) ([Ad x A c,Ad y B d].flatten) 70] (Wk.start w) [(0,0),(1,0),(2,0)] λb a=>?_;exact AN a (2,0) (D (Ad (.mk op 0 0 0 0 0 [] 0 0 [x,y]) (some ⟨U w+3,0,none⟩) 2)) ⟨_,rfl,a.B,a.H.pick [3] rfl (by decide)⟩
end
end Go.Proofs.YtkpemkkbjfbmaaaGreat
namespace Go.Proofs.YtkpemkkbjfbmaaaGreat
open List
noncomputable section
open Go.RowKit
set_option maxRecDepth 100000
set_option maxHeartbeats 1000000
attribute [local irreducible] BI BQ AD AE AG Au Ab AO A8 Bi Ct BX BO At Fr
def Ck (m:List (List UInt8×Int)) (p1:List UInt8) (p2:Int):List (List UInt8×Int):=cond (!((Bf m p1).isSome)) ((p1,p2)::m) (m)
noncomputable def X5:Code:=Tryz.f28.body.getD .skip
def AAe:=AB (Aq FQ 90 ([.code X5])) ([.code X5])
def di:=Ψ AAe
def pQ:=AB (Aq RZ 90 (AE di)) (AE di)
def AHN:=Ψ pQ
def AHM:=Ξ di
theorem JA (L:List Th) (a:Nat) (m:List (List UInt8×Int)) (p1:List UInt8) (d:Int) (w g:World) (f:p1.length<=4294967296) (j:-9223372036854775808<=d/\d<=9223372036854775807) (r:m.length<=4294967296) (B:Below (U w) w g) (H:AY (U w) g ([(Ag.th BW a m)]++L)):Calls Tryz.prog 28 ([.map (some a),Y p1,J d]:List Value).toArray g λe w'=>e=.returned (.tuple #[])/\Below (U w) w w'/\AY (U w) w' ([(Ag.th BW a (Ck m p1 d))]++L):=by
 refine AS (fn:=Tryz.f28) (c:=X5) (n:=19) ?_;have v:Wk w g [] [(Ag.th BW a m)] L:=⟨B,H⟩;clear B H;refine Ao FQ AAe v [] λw1 i=>?_;refine EW (Rn BW (t:=85) (x:=.tmp 9) (y:=.tmp 10) (by kernel_rfl) rfl (b:=a) (m:=m) (by kernel_rfl) p1 (by kernel_rfl) f (i.H.all (i.ix 0) _ (i.at 0 rfl))) ?_;refine AC di i [] λw2 q=>?_;refine AH (!((Bf m p1).isSome)) (λl=>?_) (λl=>?_)
 ·refine Ao RZ pQ q [] λw4 h=>?_;refine TW BW h.H (h.ix 0) (h.at 0 rfl) p1 d f j (Cr pQ) (by kernel_rfl) (t:=85) (x:=.tmp 16) (y:=.tmp 17) (z:=.tmp 18) (by kernel_rfl) rfl (by kernel_rfl) (by kernel_rfl) (by kernel_rfl) (by((try simp only[maxLen,length_append,length_cons,length_nil,length_singleton])<;>omega)) λw5 Hn s=>?_;have u:=h.put 0 (by simp) s Hn;refine AC AHN u [] λw6 p=>?_;have k:(Ck m p1 d)=(p1,d)::m:=by unfold Ck;rw[l]<;>rfl
  exact AN p (0,0) (.tuple #[]) ⟨rfl,p.B,by rw[k];exact p.own [0] rfl (by decide)⟩
 refine AC AHM q [] λw7 o=>?_;have k:(Ck m p1 d)=m:=by unfold Ck;rw[l]<;>rfl
 exact AN o (0,0) (.tuple #[]) ⟨rfl,o.B,by rw[k];exact o.own [0] rfl (by decide)⟩
theorem W9 (m:List (List UInt8×Int)) (s:List UInt8) (n:Int):(Ck m s n).length<=m.length+1:=by
 unfold Ck
 cases !(Bf m s).isSome<;>simp
end
end Go.Proofs.YtkpemkkbjfbmaaaGreat
namespace Go.Proofs.YtkpemkkbjfbmaaaGreat
open List
noncomputable section
open Go.RowKit
set_option maxRecDepth 100000
set_option maxHeartbeats 1000000
theorem Pc {α:Type} {a:α->List Value->Prop}:∀ {l c:List α} {rs b:List (List Value)},Dh a l rs->Dh a c b->Dh a (l++c) (rs++b)
 | [],_,[],_,_,h=>h
 | [],_,_::_,_,h,_=>h.elim
 | _::_,_,[],_,h,_=>h.elim
 | _::_,_,_::_,_,k,h=>⟨k.1,Pc k.2 h⟩
theorem Eh {α:Type} {f:α->List Value}:∀(l:List α),Dh (λe r=>r=f e) l (l.map f)
 | []=>trivial
 | _::l=>⟨rfl,Eh l⟩
abbrev Ib (A:Option Addr) (c:Nat) (l:List (Int×Int×Int)):Th:=Th.row 107 3 (λe r=>r=IR e) A c l
theorem AY.entRow {α:Type} {b:Nat} {w:World} {L:List Th} (h:AY b w L) (i:Nat) {g:Nat} {T:TypeId} {n:Nat} (a:α->List Value->Prop) (hi:L[i]?=some (Th.ent ⟨g,0,[],T,true⟩)):AY b w (L.set i (Th.row T n a (θ g) 0 [])):=by
 have hg:Ax.good w ⟨g,0,[],T,true⟩:=h.all i _ hi;refine h.set i hi (Nat.le_refl _) ⟨[],trivial,by simp,.inr ⟨g,0,#[],rfl,Nat.zero_le _,?_,Nat.le_refl _,Nat.zero_le _,by simp,by simp⟩⟩ (λk c=>?_) (λ_ _ _=>rfl)
 ·have:=hg.2;rw[if_pos rfl]at this;exact this.1
 obtain rfl:g=k:=by have:=Option.some.inj c;injection this
 exact⟨hg.1,.inl rfl⟩
section
variable {P:Program} {fi:FuncId} {R:Ending->World->Prop}
theorem xw {α:Type} {T:TypeId} {n:Nat} {e:α->List Value->Prop} {b:Nat} {A:Option Addr} {c:Nat} {l:List α} {L:List Th} {w:World} {k:Nat} {td:List Item} {E:Nat->Value} (H:AY b w L) (i:Nat) (hi:L[i]?=some (Th.row T n e A c l)) (es:List α) (rows:List (List Value)) (v:Dh e es rows) (ad:Addr) (cx:Nat)
  (b0:∀j u,rows.flatten[j]?=some u->w.cell? (ad.add j)=some u) (o:Oper) (hc:GP k E td=some o) (s x:Operand) (t:TypeId) (ho:o.op=.call { callee:=.builtin .append,args:=#[s,x],argTypes:=#[t,t] })
  (ht:P.underlying t=some (.slice T)) (a:(P.info? T).map (λi=>(i.zero.map (·.cells.size),i.size,Nat.ble i.bytes 1024))=some (some n,n,true)) (i0:0<n)
  (hs:BK k E s=.slice A l.length c) (hx:BK k E x=.slice (some ad) es.length cx) (hn:∀r∈rows,r.length=n) (h1:∀r∈rows,r.all (·.oneCell')=true) (e0:l.length+es.length<=100000000000)
  (hk:∀g m w',AY b w' (L.set i (Th.row T n e g m (l++es)))->Below b w w'->At P fi R (AD td) (Fr k (A8 E o.dst (.slice g (l++es).length m))) w'):At P fi R td (Fr k E) w:=by
 obtain⟨rs,j0,hP⟩:(Th.row T n e A c l).P w:=H.all i _ hi;obtain⟨d,l0,z,hz,g0,y,p0⟩:∃d,P.info? T=some d/\∃z,d.zero=some z/\z.cells.size=n/\d.size=n/\d.bytes<=1024:=by
  cases hi:P.info? T with
  | none=>rw[hi]at a;cases a
  | some d=>
   rw[hi]at a;simp only[Option.map_some,Option.some.injEq,Prod.mk.injEq,Option.map_eq_some_iff]at a;obtain⟨⟨z,h1,h2⟩,f,h4⟩:=a;exact⟨d,rfl,z,h1,h2,f,Nat.le_of_ble_eq_true h4⟩
 have q0:l.length+es.length<=maxLen:=by unfold maxLen;omega
 have p:(l.length+es.length)*d.bytes<=140737488355328:=Nat.le_trans (Nat.mul_le_mul e0 p0) (by decide);have m0:∀q:List (List Value),(∀r∈q,r.length=n)->q.flatten.length=q.length*n:=λq=>by
  induction q with
  | nil=>intro _;simp
  | cons r q ih=>intro h;rw[flatten_cons,length_append,ih (λr hr=>h r (by simp[hr])),h r (by simp),length_cons,Nat.succ_mul];omega
 obtain⟨v',w',hr,h2,f,_,h5⟩:=run_append_own_at (P:=P) (w:=w) 0 t o.type T d z n d.bytes ht l0 hz y rfl g0 i0 _ _ _ hP ad es.length cx rows.flatten (by rw[m0 rows hn,GW v]) b0 (λu hu=>by obtain⟨r,hr,hu⟩:=mem_flatten.1 hu;exact all_eq_true.1 (h1 r hr) u hu) q0 p (Nat.zero_le _);have hv:∃g m,v'=.slice g (l.length+es.length) m:=by
  rcases h2.2 with⟨f,h0⟩ | ⟨g',cap,r0,rfl,_⟩
  ·exact⟨none,0,by rw[f,h0]⟩
  exact⟨_,cap,rfl⟩
 obtain⟨g,m,rfl⟩:=hv;have d0:(Th.row T n e g m (l++es)).P w':=⟨rs++rows,Pc j0 v,by rw[length_append,flatten_append];exact h2⟩
 have hF:∀q,(Th.row T n e g m (l++es)).F q->q<w'.heap.size/\((Th.row T n e A c l).F q\/w.heap.size<=q):=λq hq=>by
  have a0:(Value.slice g (l.length+es.length) m).ownBlock=some q:=by rw[show g=some ⟨q,0,none⟩from hq];rfl
  refine⟨(KP h2 a0).2,?_⟩;rcases h5 with h5 | h5
  ·exact .inl (DC hP (h5.symm.trans a0)).1
  right;have:q=w.heap.size:=Option.some.inj (a0.symm.trans h5);omega
 have c0:∀q,q<w.heap.size->¬(Th.row T n e A c l).F q->w'.heap[q]?=w.heap[q]?:=λq hq k0=>f.block q hq λhe=>k0 (DC hP he.symm).1;have H':AY b w' (L.set i (Th.row T n e g m (l++es))):=H.set i hi f.size d0 hF c0;have hB:Below b w w':=⟨f.os,f.tape,f.output,f.size,λq hq=>f.block q (Nat.lt_of_lt_of_le hq H.base) λhe=>by have:=(H.lo i _ hi q (DC hP he.symm).1).1;omega⟩
 unfold GP at hc
 split at hc
 ·rename_i ops i' r k'
  split at hc
  ·rename_i o' ho'
   split at hc
   ·rename_i hw
    obtain rfl:=Option.some.inj hc;refine GC ho' (by rw[Fi];exact hw) ?_;unfold Oper.wp execOp;rw[D8];simp only[ho,resolve,invoke,builtin,Sem.run_bind,Sem.run_pure,Result.andThen_ok,map_toArray,map_cons,map_nil,hs,hx,hr];show wpOps P ops _ r ((Fr k E).put o'.dst (.slice g (l.length+es.length) m)) w';rw[Eo];have:=hk _ _ w' H' hB;rw[length_append]at this;exact this
   cases hc
  cases hc
 cases hc
end
theorem l7 {n:Nat} {w:World} {g off:Nat} {rs:List (List Value)} (hn:∀r∈rs,r.length=n) (hc:∀(i:Nat) r,rs[i]?=some r->∀(j:Nat) u,r[j]?=some u->w.cell? ⟨g,off+i*n+j,none⟩=some u):∀j u,rs.flatten[j]?=some u->w.cell? ((⟨g,off,none⟩:Addr).add j)=some u:=by
 have key:∀(rs:List (List Value)) (o:Nat),(∀r∈rs,r.length=n)->(∀(i:Nat) r,rs[i]?=some r->∀(j:Nat) u,r[j]?=some u->w.cell? ⟨g,o+i*n+j,none⟩=some u)->∀j u,rs.flatten[j]?=some u->w.cell? ⟨g,o+j,none⟩=some u:=by
  intro rs
  induction rs with
  | nil=>intro o _ _ j u h;simp at h
  | cons r rs ih=>
   intro o hn hc j u h;rw[flatten_cons]at h;have hr:r.length=n:=hn r (by simp);rcases D7 h with a | ⟨a,h2⟩
   ·have:=hc 0 r rfl j u a;simpa using this
   have:=ih (o+n) (λr hr=>hn r (by simp[hr])) (λi r hi j u hu=>by have:=hc (i+1) r (by simpa using hi) j u hu;rw[Nat.succ_mul]at this;rw[show o+n+i*n+j=o+(i*n+n)+j by omega];exact this) (j-r.length) u h2
   rw[show o+n+(j-r.length)=o+j by omega]at this;exact this
 intro j u h;have:=key rs off hn hc j u h;unfold Addr.add
 split
 ·rename_i hj;subst hj;exact this
 simpa using this
theorem Mb {n:Nat} {w:World} {b:Addr} {rs:List (List Value)} (h:DF Cg w n (some b) rs) (hn:∀r∈rs,r.length=n):∀j u,rs.flatten[j]?=some u->w.cell? (b.add j)=some u:=by
 rcases h with h | ⟨c,a,hA,_,hg,hc⟩
 ·subst h;intro j u hu;simp at hu
 obtain rfl:=Option.some.inj hA;exact l7 hn λi r hi j u hu=>hc i r hi j u hu
def Hk:Op->Bool
 | .fieldAddr _ _ _=>true
 | _=>false
theorem Xq {S:Nat->Prop} {w:World} {e:Ex} (h:e.ks=[]):DD S w e (Ad e none 0):=Oh (ks:=[]) (by rw[h];unfold Fb;rfl) (.inl rfl)
theorem LY.leaf {b:Nat} {ns:List Int} {n:Int} {h:Nat} {t:Ty} {w w':World} {x:Ex} (hx:DL n h t x) (a:x.ks=[]) (ho:Br b ns w'/\CU b w w'):LY b ns n h t w (.returned (D (Ad x none 0))) w':=⟨x,none,0,rfl,hx,Xq a,ho⟩
theorem I7 {t s:Ty} (h:Hg t s=true):t=s:=by obtain⟨a,b,c,d⟩:=t;obtain⟨i,g,f,e⟩:=s;unfold Hg at h;simp only[Bool.and_eq_true,beq_iff_eq]at h;obtain⟨rfl,rfl,rfl,rfl⟩:=h;rfl
theorem xT {t:Ty} (h:t∈Ek) (c:Hg t DB=false) (h2:Hg t Cb=false) (b:Hg t Dn=false) (a:Hg t CH=false):t=BT:=by
 simp only[Ek,mem_cons,not_mem_nil,or_false]at h;rcases h with rfl | rfl | rfl | rfl | rfl
 ·rfl
 ·cases h2
 ·cases b
 ·cases a
 cases c
attribute [local irreducible] BI BQ AD AE AG Au Ab AO A8 Bi Ct BX EE EH DW BO At Fr
noncomputable def aR:Code:=Tryz.f42.body.getD .skip
def cd:=ν [.code aR]
def sW:=AB (Aq (GM) 90 (AD cd)) (AD cd)
def UC:=Ψ sW
def ca:=AB (Aq (BH) 90 (AE UC)) (AE UC)
def cZ:=Ψ ca
def cY:=AB (Aq (BH) 90 (AE cZ)) (AE cZ)
def UB:=Ψ cY
def UA:=Ψ UB
def sV:=Θ UA
def AEJ:=Ψ sV
def HL:=AB (Aq (Hk) 90 (AG UA)) (AG UA)
def VW:=Ξ UC
def jR:=AB (Aq (GM) 90 (AD VW)) (AD VW)
def VV:=Ψ jR
def jQ:=Θ VV
def VU:=Ψ jQ
def jP:=Θ VU
def jO:=Ψ jP
def y6:=Ψ jO
def VT:=Ξ VU
def VS:=AB (Aq (BH) 90 (AE VT)) (AE VT)
def QQ:=Ψ VS
def QP:=AB (Aq (BH) 90 (AE QQ)) (AE QQ)
def VR:=Ξ VV
def jN:=AB (Aq (GM) 90 (AD VR)) (AD VR)
def QO:=Ψ jN
def VQ:=AB (Aq (BH) 90 (AE QO)) (AE QO)
def jM:=Ψ VQ
def jL:=Ψ jM
def jK:=Θ jL
def jJ:=Ψ jK
def y5:=Ψ jJ
def VP:=Ξ QO
def jI:=AB (Aq (GM) 90 (AD VP)) (AD VP)
def QN:=Ψ jI
def VO:=Θ QN
def jH:=AB (Aq (BH) 90 (AE VO)) (AE VO)
def VN:=AB (Aq (BH) 90 (AG QN)) (AG QN)
def VM:=Ψ VN
def jG:=AB (Aq (BH) 90 (AE VM)) (AE VM)
def jF:=ν HL
def Ks:=Ψ jF
def VL:=Θ Ks
def jE:=AB (Aq (Aa) 90 (AD VL)) (AD VL)
def y4:=ν (AD (AD jE))
def jD:=Ξ Ks
def y0:=Ω jD
theorem Gb {R:Ending->World->Prop} {b:Nat} {ns:List Int} {n:Int} {h:Nat} {t:Ty} {w w0 u:World} {A:Option Addr} {c:Nat} {l:List (List UInt8)} {E:Nat->Value} (j:(U w0)=b) (hw:Below (U w0) w0 w) (h5:t∈Ek) (hl:∀nm∈l,nm∈LG t n) (b0:t.1=true->0<l.length) (c0:l.length<=2) (hR:∀e w',LY b ns n (h+1) t w e w'->R e w')
  (K:Wk w0 u [N (U w) (BE t) 65,N (U w+1) (Ad BU none 0) 70] [BV w0 b ns,CI b w,Bo A c l] []):At Tryz.prog 42 R HL (Fr 106 (BN E [(0,Z b),(4,Z (U w)),(6,Z (U w+1)),(7,V A l.length c),(84,I (decide (0<(l.length:Int))))])) u:=by
 have num:∀u (E:Nat->Value),t.1=false->Wk w0 u [N (U w) (BE t) 65,N (U w+1) (Ad BU none 0) 70] [BV w0 b ns,CI b w,Bo A c l] []->At Tryz.prog 42 R (AG Ks) (Fr 106 (BN E [(0,Z b),(4,Z (U w)),(6,Z (U w+1))])) u:=by
  intro u E ht K;refine AC jD K [] λi d=>?_;refine FJ d j 0 rfl [0,1,2,3] [N (U w) (BE t) 65] [(3,0,1)] [(1,λv _=>∃q∈G5,v=D [J q.1,J q.2])] 2 (λu hu e he=>by rw[mem_singleton.1 he];exact hu.ent 0 rfl) (λp s v u u' _ h=>by rw[mem_singleton.1 s]at h ⊢;exact h) (λp s X u hu hb hf=>?_) λX u hu hb hf=>?_
  ·rw[mem_singleton.1 s];exact CF (g:=40) (xs:=[.tmp 101]) (args:=[Z b]) ((ACw b ns u (hu.tapeOk j 0 rfl)).mono λe w' hh=>by obtain⟨q,m,rfl,h1,h2⟩:=hh;exact⟨_,rfl,h1,h2,q,m,rfl⟩) rfl
  obtain⟨q,m,hX⟩:∃q∈G5,X 1=D [J q.1,J q.2]:=hf 1 (by simp) rfl;refine Bk [(6,Z (U w+1)),(102,X 1),(104,D [J t.2.1,J t.2.2.1,J t.2.2.2])] λE2=>?_;rw[hX];refine EL hu [(4,0,0),(5,1,0)] (λ_=>[N (U w) (BE t) 65,N (U w+1) (Ad (.mk 1 q.1 q.2 t.2.1 t.2.2.1 t.2.2.2 [] 0 0 []) none 0) 70]) λz w3 f=>?_;refine An y0 [N (U w) (BE t) 65,N (U w+1) (Ad (.mk 1 q.1 q.2 t.2.1 t.2.2.1 t.2.2.2 [] 0 0 []) none 0) 70] f [] λw4 K4=>?_;exact AN K4 (1,0) (D (Ad (.mk 1 q.1 q.2 t.2.1 t.2.2.1 t.2.2.2 [] 0 0 []) none 0)) (hR _ _ (.leaf (.num h t q ht h5 m) rfl (K4.out j hw)))
 have nam:∀u (E:Nat->Value),0<l.length->Wk w0 u [N (U w) (BE t) 65,N (U w+1) (Ad BU none 0) 70] [BV w0 b ns,CI b w,Bo A c l] []->At Tryz.prog 42 R (AE Ks) (Fr 106 (BN E [(0,Z b),(4,Z (U w)),(6,Z (U w+1)),(7,V A l.length c)])) u:=by
  intro u E a K;refine AC VL K [] λi d=>?_;refine BS d j 0 rfl (Be b ns l.length i (d.tapeOk j 0 rfl) (by omega) (by omega)) Bl.ok λe w2 m K2=>?_;obtain⟨k,hk,rfl,_,_⟩:=m;refine⟨_,rfl,?_⟩;have a0:k<l.length:=by omega
  obtain⟨nm,y⟩:∃x,l[k]?=some x:=⟨_,getElem?_eq_getElem a0⟩;refine Ao Aa jE K2 [] λw3 f=>?_;obtain⟨g,off,rfl,hg,hr⟩:=(f.H.rowsStr (f.ix 2) (f.at 2 rfl)).all a;refine Aw (g:=g) (off:=off) (cap:=c) (sz:=1) (k:=k) (len:=l.length) (some 98) a0 Tryz.underlying29 ?_;refine EF 9 g (off+k*1) (Y nm) (some 99) (hr k nm y 0 _ rfl) ?_;refine An y4 [N (U w) (BE t) 65,N (U w+1) (Ad (.mk 3 0 0 0 0 0 nm 0 0 []) none 0) 70] f [(1,0)] λw4 K4=>?_;exact AN K4 (1,0) (D (Ad (.mk 3 0 0 0 0 0 nm 0 0 []) none 0)) (hR _ _ (.leaf (.name h t nm (hl nm (mem_of_getElem? y))) rfl (K4.out j hw)))
 cases a:l with
 | nil=>
  subst a;have ht:t.1=false:=by
   cases ht:t.1
   ·rfl
   exact absurd (b0 ht) (Nat.lt_irrefl 0)
  refine AC Ks K [(0,0)] λi d=>?_;refine AH false (λh=>by cases h) (λ_=>?_);refine AX [(0,Z b),(4,Z (U w)),(6,Z (U w+1))] λo=>?_;exact num i o ht d
 | cons x r=>
  rw[<-a];have s:0<l.length:=by rw[a];exact Nat.succ_pos _
  rw[show decide (0<(l.length:Int))=true from decide_eq_true (by omega)];rcases t with⟨tb,tr⟩
  cases tb
  ·refine AC jF K [(0,0)] λi d=>?_;refine BS d j 0 rfl (Be b ns 3 i (d.tapeOk j 0 rfl) (by omega) (by omega)) Bl.ok λe w2 m K2=>?_;obtain⟨k,hk,rfl,_,_⟩:=m;refine⟨_,rfl,?_⟩;refine AC Ks K2 [] λw3 f=>?_;refine AH (decide (0<(k:Int))) (λ_=>?_) (λ_=>?_)
   ·refine AX [(0,Z b),(4,Z (U w)),(6,Z (U w+1)),(7,V A l.length c)] λo=>?_;exact nam w3 o s f
   refine AX [(0,Z b),(4,Z (U w)),(6,Z (U w+1))] λo=>?_;exact num w3 o rfl f
  refine AC Ks K [(0,0)] λi d=>?_;refine AH true (λ_=>?_) (λh=>by cases h);refine AX [(0,Z b),(4,Z (U w)),(6,Z (U w+1)),(7,V A l.length c)] λo=>?_;exact nam i o s d
theorem AGJ (b:Nat) (ns:List Int) (n:Int) (h:Nat) (t:Ty) (h5:t∈Ek) (w:World) (hT:Br b ns w):Calls Tryz.prog 42 ([Z b,D (BE t),J n]:List Value).toArray w (LY b ns n (h+1) t w):=by
 refine AS (fn:=Tryz.f42) (c:=aR) (n:=106) ?_;obtain⟨w0,i,K0⟩:=Wk.tape hT;have hw:=K0.B;refine An cd [N (U w) (BE t) 65,N (U w+1) (Ad BU none 0) 70] (K0.addNil 9 1 (λe r=>r=FG e)) [(0,0)] λw1 K1=>?_;refine AW K1 (args:=[]) (La _) λw2 K2=>?_;refine Ao GM sW K2 [] λw3 K3=>?_;refine EW (DS (k:=.eql) (T:=65) (a:=D (BE t)) (b:=D (BE DB)) (EZ _ _ _ _ _ _ _ _ _)) ?_;refine AC UC K3 [] λw4 K4=>?_;refine AH (Hg t DB) (λct=>?_) (λct=>?_)
 ·have e1:=I7 ct;refine Bn BH ca [N (U w) (BE t) 65,N (U w+1) (Ad BU none 0) 70,N (U w4) [Y [102]] 9] K4 [] λw5 K5=>?_;refine CD K5.H (K5.ix 2) (K5.at 2 rfl) [102] (FG [102]) rfl (U w4) (K5.ent 2 (by kernel_rfl)) (Cr ca) (by kernel_rfl) (.tmp 20) (.tmp 21) 29 (by kernel_rfl) (by kernel_rfl) (by kernel_rfl) (by decide) (by kernel_rfl) (by kernel_rfl) rfl rfl (by decide) λA5 c5 w6 v1 b5=>?_;have K6:Wk w0 w6 [N (U w) (BE t) 65,N (U w+1) (Ad BU none 0) 70] [BV w0 b ns,CI b w,Bo A5 c5 [[102]]] []:=(K5.put 2 (by simp) b5 v1).pk [0,1] [0,1,2];refine AC cZ K6 [] λw7 K7=>?_;have fin:∀(A:Option Addr) (c:Nat) (l:List (List UInt8)) (u:World) (E:Nat->Value),0<l.length->l.length<=2->(∀nm∈l,nm∈LG t n)->Wk w0 u [N (U w) (BE t) 65,N (U w+1) (Ad BU none 0) 70] [BV w0 b ns,CI b w,Bo A c l] []->At Tryz.prog 42 (LY b ns n (h+1) t w) UB (Fr 106 (BN E [(0,Z b),(4,Z (U w)),(6,Z (U w+1)),(7,V A l.length c),(28,Z b)])) u:=λA c l u E r1 q1 hl K=>by
   refine BS K i 0 rfl (Be b ns 2 _ (K.tapeOk i 0 rfl) (by omega) (by omega)) Bl.ok λe w8 hq K8=>?_;obtain⟨k8,d2,rfl,_,_⟩:=hq;refine⟨_,rfl,?_⟩;refine AC UA K8 [] λw9 x=>?_;refine AH ((k8:Int)==0) (λ_=>?_) (λ_=>?_)
   ·refine AC sV x [] λz f=>?_;refine BS f i 0 rfl (Be b ns 2 _ (f.tapeOk i 0 rfl) (by omega) (by omega)) Bl.ok λe s hq j=>?_;obtain⟨d1,a2,rfl,_,_⟩:=hq;refine⟨_,rfl,?_⟩;refine An AEJ [N (U w) (BE t) 65,N (U w+1) (Ad (.mk 2 0 0 0 0 0 [] (d1:Int) 0 []) none 0) 70] j [(1,0)] λo d=>?_;refine AN d (1,0) (D (Ad (.mk 2 0 0 0 0 0 [] (d1:Int) 0 []) none 0)) (.leaf ?_ rfl (d.out i hw));rw[e1];exact .tru h _ (by omega)
   refine Ao Hk HL x [] λz f=>?_;refine AX [(0,Z b),(4,Z (U w)),(6,Z (U w+1)),(7,V A l.length c),(84,I (decide (0<(l.length:Int))))] λf2=>?_;exact Gb i hw h5 hl (λ_=>r1) q1 (λ_ _ h=>h) f
  refine AH (decide (3<n)) (λc2=>?_) (λc2=>?_)
  ·skip
   refine Bn BH cY [N (U w) (BE t) 65,N (U w+1) (Ad BU none 0) 70,N (U w7) [Y [114,51]] 9] K7 [] λz f=>?_;refine CD f.H (f.ix 2) (f.at 2 rfl) [114,51] (FG [114,51]) rfl (U w7) (f.ent 2 (by kernel_rfl)) (Cr cY) (by kernel_rfl) (.tmp 25) (.tmp 26) 29 (by kernel_rfl) (by kernel_rfl) (by kernel_rfl) (by decide) (by kernel_rfl) (by kernel_rfl) rfl rfl (by decide) λe0 d0 s l0 x0=>?_;have j:Wk w0 s [N (U w) (BE t) 65,N (U w+1) (Ad BU none 0) 70] [BV w0 b ns,CI b w,Bo e0 d0 [[102],[114,51]]] []:=(f.put 2 (by simp) x0 l0).pk [0,1] [0,1,2];refine AC UB j [] λo d=>?_;refine AX [(0,Z b),(4,Z (U w)),(6,Z (U w+1)),(7,V e0 [[102],[114,51]].length d0),(28,Z b)] λm0=>?_;exact fin e0 d0 [[102],[114,51]] o m0 (by decide) (by decide) (λnm hm=>by rw[e1];show nm∈[102]::cond (decide (3<n)) [[114,51]] [];rw[c2];exact hm) d
  refine AC UB K7 [] λo d=>?_;refine AX [(0,Z b),(4,Z (U w)),(6,Z (U w+1)),(7,V A5 [[102]].length c5),(28,Z b)] λm0=>?_;exact fin A5 c5 [[102]] o m0 (by decide) (by decide) (λnm hm=>by rw[e1];show nm∈[102]::cond (decide (3<n)) [[114,51]] [];rw[c2];exact hm) d
 refine AC VW K4 [] λw5 K5=>?_;refine AW K5 (args:=[]) (Gw _) λw6 K6=>?_;refine Ao GM jR K6 [] λw7 K7=>?_;refine EW (DS (k:=.eql) (T:=65) (a:=D (BE t)) (b:=D (BE Cb)) (EZ _ _ _ _ _ _ _ _ _)) ?_;refine AC VV K7 [] λw8 K8=>?_;refine AH (Hg t Cb) (λcm=>?_) (λcm=>?_)
 ·have e2:=I7 cm;refine AC jQ K8 [] λw9 x=>?_;refine BS x i 0 rfl (Be b ns 4 _ (x.tapeOk i 0 rfl) (by omega) (by omega)) Bl.ok λe z hq f=>?_;obtain⟨p1,b2,rfl,_,_⟩:=hq;refine⟨_,rfl,?_⟩;refine AC VU f [] λs j=>?_;refine AH ((p1:Int)==3) (λ_=>?_) (λ_=>?_)
  ·skip
   refine An jP [N (U w) (BE t) 65,N (U w+1) (Ad BU none 0) 70,N (U s) [J 20,J 21] 3] j [] λo d=>?_;refine BS d i 0 rfl (Ji b ns (U s) [20,21] 2 o (d.tapeOk i 0 rfl) (Nat.ne_of_gt (j.tapeOk i 0 rfl).lt) (by decide) (by decide) (d.ent 2 (by kernel_rfl))) (λe w' ⟨_,_,_,h1,h2⟩=>⟨h1,h2⟩) λe c0 hq p=>?_;obtain⟨op,hop,rfl,_,_⟩:=hq;refine⟨_,rfl,?_⟩;refine AC jO p [] λb0 m=>?_;refine BS m i 0 rfl (Be b ns 3 _ (m.tapeOk i 0 rfl) (by omega) (by omega)) Bl.ok λe a0 hq y=>?_;obtain⟨c1,y1,rfl,_,_⟩:=hq;refine⟨_,rfl,?_⟩;have g0:op=20\/op=21:=by simpa using hop
   refine An y6 [N (U w) (BE t) 65,N (U w+1) (Ad (.mk op 0 0 0 0 0 [103,114,111,115,115] (IntKind.i64.wrap (1+(c1:Int))) 0 []) none 0) 70,N (U s) [J 20,J 21] 3] y [(1,0)] λt0 g=>?_;refine AN g (1,0) (D (Ad (.mk op 0 0 0 0 0 [103,114,111,115,115] (IntKind.i64.wrap (1+(c1:Int))) 0 []) none 0)) (.leaf ?_ rfl (g.out i hw));rw[IntWalk.i64_in _ (by omega)];exact .past h t [103,114,111,115,115] op _ (.inl ⟨e2,rfl⟩) g0 (by omega) (by omega)
  refine AC VT j [] λo d=>?_;refine AH (decide (2<n)) (λc2=>?_) (λc2=>?_)
  ·skip
   refine Bn BH VS [N (U w) (BE t) 65,N (U w+1) (Ad BU none 0) 70,N (U o) [Y [114,50]] 9] d [] λc0 p=>?_;refine CD p.H (p.ix 2) (p.at 2 rfl) [114,50] (FG [114,50]) rfl (U o) (p.ent 2 (by kernel_rfl)) (Cr VS) (by kernel_rfl) (.tmp 49) (.tmp 50) 29 (by kernel_rfl) (by kernel_rfl) (by kernel_rfl) (by decide) (by kernel_rfl) (by kernel_rfl) rfl rfl (by decide) λm1 f1 b0 i1 s1=>?_;have m:Wk w0 b0 [N (U w) (BE t) 65,N (U w+1) (Ad BU none 0) 70] [BV w0 b ns,CI b w,Bo m1 f1 [[114,50]]] []:=(p.put 2 (by simp) s1 i1).pk [0,1] [0,1,2];refine AC QQ m [] λa0 y=>?_;refine AH (decide (4<n)) (λc3=>?_) (λc3=>?_)
   ·skip
    refine Bn BH QP [N (U w) (BE t) 65,N (U w+1) (Ad BU none 0) 70,N (U a0) [Y [97]] 9] y [] λt0 g=>?_;refine CD g.H (g.ix 2) (g.at 2 rfl) [97] (FG [97]) rfl (U a0) (g.ent 2 (by kernel_rfl)) (Cr QP) (by kernel_rfl) (.tmp 54) (.tmp 55) 29 (by kernel_rfl) (by kernel_rfl) (by kernel_rfl) (by decide) (by kernel_rfl) (by kernel_rfl) rfl rfl (by decide) λp0 i0 r0 k0 v0=>?_;have j0:Wk w0 r0 [N (U w) (BE t) 65,N (U w+1) (Ad BU none 0) 70] [BV w0 b ns,CI b w,Bo p0 i0 [[114,50],[97]]] []:=(g.put 2 (by simp) v0 k0).pk [0,1] [0,1,2];refine Ao Hk HL j0 [] λq0 v=>?_;refine AX [(0,Z b),(4,Z (U w)),(6,Z (U w+1)),(7,V p0 [[114,50],[97]].length i0),(84,I (decide (0<([[114,50],[97]].length:Int))))] λa1=>?_;refine Gb (l:=[[114,50],[97]]) i hw h5 (λnm hm=>?_) (λq=>?_) (by decide) (λ_ _ h=>h) v
    ·rw[e2];show nm∈cond (decide (2<n)) [[114,50]] []++cond (decide (4<n)) [[97]] [];rw[c2,c3];exact hm
    rw[e2]at q
    cases q
   skip
   refine Ao Hk HL y [] λq0 v=>?_;refine AX [(0,Z b),(4,Z (U w)),(6,Z (U w+1)),(7,V m1 [[114,50]].length f1),(84,I (decide (0<([[114,50]].length:Int))))] λa1=>?_;refine Gb (l:=[[114,50]]) i hw h5 (λnm hm=>?_) (λq=>?_) (by decide) (λ_ _ h=>h) v
   ·rw[e2];show nm∈cond (decide (2<n)) [[114,50]] []++cond (decide (4<n)) [[97]] [];rw[c2,c3];exact hm
   rw[e2]at q
   cases q
  refine AC QQ d [] λa0 y=>?_;refine AH (decide (4<n)) (λc3=>?_) (λc3=>?_)
  ·skip
   refine Bn BH QP [N (U w) (BE t) 65,N (U w+1) (Ad BU none 0) 70,N (U a0) [Y [97]] 9] y [] λt0 g=>?_;refine CD g.H (g.ix 2) (g.at 2 rfl) [97] (FG [97]) rfl (U a0) (g.ent 2 (by kernel_rfl)) (Cr QP) (by kernel_rfl) (.tmp 54) (.tmp 55) 29 (by kernel_rfl) (by kernel_rfl) (by kernel_rfl) (by decide) (by kernel_rfl) (by kernel_rfl) rfl rfl (by decide) λp0 i0 r0 k0 v0=>?_;have j0:Wk w0 r0 [N (U w) (BE t) 65,N (U w+1) (Ad BU none 0) 70] [BV w0 b ns,CI b w,Bo p0 i0 [[97]]] []:=(g.put 2 (by simp) v0 k0).pk [0,1] [0,1,2];refine Ao Hk HL j0 [] λq0 v=>?_;refine AX [(0,Z b),(4,Z (U w)),(6,Z (U w+1)),(7,V p0 [[97]].length i0),(84,I (decide (0<([[97]].length:Int))))] λa1=>?_;refine Gb (l:=[[97]]) i hw h5 (λnm hm=>?_) (λq=>?_) (by decide) (λ_ _ h=>h) v
   ·rw[e2];show nm∈cond (decide (2<n)) [[114,50]] []++cond (decide (4<n)) [[97]] [];rw[c2,c3];exact hm
   rw[e2]at q
   cases q
  skip
  refine Ao Hk HL y [] λq0 v=>?_;refine AX [(0,Z b),(4,Z (U w)),(6,Z (U w+1)),(7,V none ([]:List (List UInt8)).length 0),(84,I (decide (0<(([]:List (List UInt8)).length:Int))))] λa1=>?_;refine Gb (l:=([]:List (List UInt8))) i hw h5 (λnm hm=>?_) (λq=>?_) (by decide) (λ_ _ h=>h) v
  ·rw[e2];show nm∈cond (decide (2<n)) [[114,50]] []++cond (decide (4<n)) [[97]] [];rw[c2,c3];exact hm
  rw[e2]at q
  cases q
 refine AC VR K8 [] λw5 K5=>?_;refine AW K5 (args:=[]) (Iv _) λw6 K6=>?_;refine Ao GM jN K6 [] λw7 K7=>?_;refine EW (DS (k:=.eql) (T:=65) (a:=D (BE t)) (b:=D (BE Dn)) (EZ _ _ _ _ _ _ _ _ _)) ?_;refine AC QO K7 [] λw8 K8=>?_;refine AH (Hg t Dn) (λch=>?_) (λch=>?_)
 ·have e3:=I7 ch;refine Bn BH VQ [N (U w) (BE t) 65,N (U w+1) (Ad BU none 0) 70,N (U w8) [Y [104]] 9] K8 [] λw9 x=>?_;refine CD x.H (x.ix 2) (x.at 2 rfl) [104] (FG [104]) rfl (U w8) (x.ent 2 (by kernel_rfl)) (Cr VQ) (by kernel_rfl) (.tmp 60) (.tmp 61) 29 (by kernel_rfl) (by kernel_rfl) (by kernel_rfl) (by decide) (by kernel_rfl) (by kernel_rfl) rfl rfl (by decide) λA9 c9 z z0 b9=>?_;have f:Wk w0 z [N (U w) (BE t) 65,N (U w+1) (Ad BU none 0) 70] [BV w0 b ns,CI b w,Bo A9 c9 [[104]]] []:=(x.put 2 (by simp) b9 z0).pk [0,1] [0,1,2];refine AC jM f [] λs j=>?_;refine BS j i 0 rfl (Be b ns 4 _ (j.tapeOk i 0 rfl) (by omega) (by omega)) Bl.ok λe o hq d=>?_;obtain⟨o1,z1,rfl,_,_⟩:=hq;refine⟨_,rfl,?_⟩;refine AC jL d [] λc0 p=>?_;refine AH ((o1:Int)==3) (λ_=>?_) (λ_=>?_)
  ·skip
   refine An jK [N (U w) (BE t) 65,N (U w+1) (Ad BU none 0) 70,N (U c0) [J 20,J 21] 3] p [] λb0 m=>?_;refine BS m i 0 rfl (Ji b ns (U c0) [20,21] 2 b0 (m.tapeOk i 0 rfl) (Nat.ne_of_gt (p.tapeOk i 0 rfl).lt) (by decide) (by decide) (m.ent 2 (by kernel_rfl))) (λe w' ⟨_,_,_,h1,h2⟩=>⟨h1,h2⟩) λe a0 hq y=>?_;obtain⟨op,hop,rfl,_,_⟩:=hq;refine⟨_,rfl,?_⟩;refine AC jJ y [] λt0 g=>?_;refine BS g i 0 rfl (Be b ns 3 _ (g.tapeOk i 0 rfl) (by omega) (by omega)) Bl.ok λe r0 hq j0=>?_;obtain⟨b1,x1,rfl,_,_⟩:=hq;refine⟨_,rfl,?_⟩;have g0:op=20\/op=21:=by simpa using hop
   refine An y5 [N (U w) (BE t) 65,N (U w+1) (Ad (.mk op 0 0 0 0 0 [116,105,109,101] (IntKind.i64.wrap (1+(b1:Int))) 0 []) none 0) 70,N (U c0) [J 20,J 21] 3] j0 [(1,0)] λq0 v=>?_;refine AN v (1,0) (D (Ad (.mk op 0 0 0 0 0 [116,105,109,101] (IntKind.i64.wrap (1+(b1:Int))) 0 []) none 0)) (.leaf ?_ rfl (v.out i hw));rw[IntWalk.i64_in _ (by omega)];exact .past h t [116,105,109,101] op _ (.inr ⟨e3,rfl⟩) g0 (by omega) (by omega)
  refine Ao Hk HL p [] λb0 m=>?_;refine AX [(0,Z b),(4,Z (U w)),(6,Z (U w+1)),(7,V A9 [[104]].length c9),(84,I (decide (0<([[104]].length:Int))))] λl1=>?_;refine Gb (l:=[[104]]) i hw h5 (λnm hm=>?_) (λq=>?_) (by decide) (λ_ _ h=>h) m
  ·rw[e3];show nm∈[[104]];exact hm
  rw[e3]at q
  cases q
 refine AC VP K8 [] λw5 K5=>?_;refine AW K5 (args:=[]) (Gv _) λw6 K6=>?_;refine Ao GM jI K6 [] λw7 K7=>?_;refine EW (DS (k:=.eql) (T:=65) (a:=D (BE t)) (b:=D (BE CH)) (EZ _ _ _ _ _ _ _ _ _)) ?_;refine AC QN K7 [] λw8 K8=>?_;refine AH (Hg t CH) (λcr=>?_) (λcr=>?_)
 ·have e4:=I7 cr;refine AC VO K8 [] λw9 x=>?_;refine AH (decide (1<n)) (λc2=>?_) (λc2=>?_)
  ·skip
   refine Bn BH jH [N (U w) (BE t) 65,N (U w+1) (Ad BU none 0) 70,N (U w9) [Y [114,49]] 9] x [] λz f=>?_;refine CD f.H (f.ix 2) (f.at 2 rfl) [114,49] (FG [114,49]) rfl (U w9) (f.ent 2 (by kernel_rfl)) (Cr jH) (by kernel_rfl) (.tmp 78) (.tmp 79) 29 (by kernel_rfl) (by kernel_rfl) (by kernel_rfl) (by decide) (by kernel_rfl) (by kernel_rfl) rfl rfl (by decide) λe0 d0 s l0 x0=>?_;have j:Wk w0 s [N (U w) (BE t) 65,N (U w+1) (Ad BU none 0) 70] [BV w0 b ns,CI b w,Bo e0 d0 [[114,49]]] []:=(f.put 2 (by simp) x0 l0).pk [0,1] [0,1,2];refine Ao Hk HL j [] λo d=>?_;refine AX [(0,Z b),(4,Z (U w)),(6,Z (U w+1)),(7,V e0 [[114,49]].length d0),(84,I (decide (0<([[114,49]].length:Int))))] λm0=>?_;refine Gb (l:=[[114,49]]) i hw h5 (λnm hm=>?_) (λq=>?_) (by decide) (λ_ _ h=>h) d
   ·rw[e4];show nm∈cond (decide (1<n)) [[114,49]] [];rw[c2];exact hm
   rw[e4]at q
   cases q
  skip
  refine Ao Hk HL x [] λo d=>?_;refine AX [(0,Z b),(4,Z (U w)),(6,Z (U w+1)),(7,V none ([]:List (List UInt8)).length 0),(84,I (decide (0<(([]:List (List UInt8)).length:Int))))] λm0=>?_;refine Gb (l:=([]:List (List UInt8))) i hw h5 (λnm hm=>?_) (λq=>?_) (by decide) (λ_ _ h=>h) d
  ·rw[e4];show nm∈cond (decide (1<n)) [[114,49]] [];rw[c2];exact hm
  rw[e4]at q
  cases q
 have e5:=xT h5 ct cm ch cr;refine Bn BH VN [N (U w) (BE t) 65,N (U w+1) (Ad BU none 0) 70,N (U w8) [Y [103]] 9] K8 [] λw9 x=>?_;refine CD x.H (x.ix 2) (x.at 2 rfl) [103] (FG [103]) rfl (U w8) (x.ent 2 (by kernel_rfl)) (Cr VN) (by kernel_rfl) (.tmp 9) (.tmp 10) 29 (by kernel_rfl) (by kernel_rfl) (by kernel_rfl) (by decide) (by kernel_rfl) (by kernel_rfl) rfl rfl (by decide) λA9 c9 z z0 b9=>?_;have f:Wk w0 z [N (U w) (BE t) 65,N (U w+1) (Ad BU none 0) 70] [BV w0 b ns,CI b w,Bo A9 c9 [[103]]] []:=(x.put 2 (by simp) b9 z0).pk [0,1] [0,1,2];refine AC VM f [] λs j=>?_;refine AH (decide (4<n)) (λc2=>?_) (λc2=>?_)
 ·skip
  refine Bn BH jG [N (U w) (BE t) 65,N (U w+1) (Ad BU none 0) 70,N (U s) [Y [114,52]] 9] j [] λo d=>?_;refine CD d.H (d.ix 2) (d.at 2 rfl) [114,52] (FG [114,52]) rfl (U s) (d.ent 2 (by kernel_rfl)) (Cr jG) (by kernel_rfl) (.tmp 14) (.tmp 15) 29 (by kernel_rfl) (by kernel_rfl) (by kernel_rfl) (by decide) (by kernel_rfl) (by kernel_rfl) rfl rfl (by decide) λn1 g1 c0 k1 t1=>?_;have p:Wk w0 c0 [N (U w) (BE t) 65,N (U w+1) (Ad BU none 0) 70] [BV w0 b ns,CI b w,Bo n1 g1 [[103],[114,52]]] []:=(d.put 2 (by simp) t1 k1).pk [0,1] [0,1,2];refine Ao Hk HL p [] λb0 m=>?_;refine AX [(0,Z b),(4,Z (U w)),(6,Z (U w+1)),(7,V n1 [[103],[114,52]].length g1),(84,I (decide (0<([[103],[114,52]].length:Int))))] λl1=>?_;refine Gb (l:=[[103],[114,52]]) i hw h5 (λnm hm=>?_) (λq=>?_) (by decide) (λ_ _ h=>h) m
  ·rw[e5];show nm∈[103]::cond (decide (4<n)) [[114,52]] [];rw[c2];exact hm
  rw[e5]at q
  cases q
 skip
 refine Ao Hk HL j [] λb0 m=>?_;refine AX [(0,Z b),(4,Z (U w)),(6,Z (U w+1)),(7,V A9 [[103]].length c9),(84,I (decide (0<([[103]].length:Int))))] λl1=>?_;refine Gb (l:=[[103]]) i hw h5 (λnm hm=>?_) (λq=>?_) (by decide) (λ_ _ h=>h) m
 ·rw[e5];show nm∈[103]::cond (decide (4<n)) [[114,52]] [];rw[c2];exact hm
 rw[e5]at q
 cases q
end
end Go.Proofs.YtkpemkkbjfbmaaaGreat
namespace Go.Proofs.YtkpemkkbjfbmaaaGreat
open List
noncomputable section
open Go.RowKit
set_option maxRecDepth 100000
set_option maxHeartbeats 1000000
attribute [local irreducible] BI BQ AD AE AG Au Ab AO A8 Bi Ct BX BO At Fr
def NE:List (Int×Int×Int):=[]
noncomputable def oG:Code:=Tryz.f56.body.getD .skip
def ACC:=ν ([.code oG])
def AH4:=Θ ACC
theorem YG (g:Nat) (w:World):Calls Tryz.prog 56 ([V none 0 g]:List Value).toArray w λe w'=>∃(b:Option Addr) (a:Nat),e=.returned (V b ((NE).length) a)/\Below (U w) w w'/\AY (U w) w' [Ib b a (NE)]:=by
 refine AS (fn:=Tryz.f56) (c:=oG) (n:=8) ?_;have k:=Wk.start w;refine AC ACC k [] λm j=>?_;refine AH true (λ_=>?_) (λh=>nomatch h);have i:=j.addNil 107 3 (λe r=>r=IR e);refine AC AH4 i [] λl d=>?_;have f:(NE)=[]:=by unfold NE;rfl
 exact AN d (0,0) (V none 0 0) ⟨none,0,by rw[f]<;>rfl,d.B,by rw[f];exact d.own0 [0] rfl (by decide)⟩
def R1 (es:List (Int×Int×Int)):List (Int×Int×Int):=([])++es
noncomputable def oE:Code:=Tryz.f56.body.getD .skip
def p9:=ν ([.code oE])
def p8:=AB (Aq BH 90 (AG p9)) (AG p9)
def AH2:=Ψ p8
theorem hU (j:Addr) (es:List (Int×Int×Int)) (o:Nat) (w:World) (d:Dl w (some j) es) (i:es.length<=4294967296):Calls Tryz.prog 56 ([V (some j) es.length o]:List Value).toArray w λe w'=>∃(b:Option Addr) (a:Nat),e=.returned (V b ((R1 es).length) a)/\Below (U w) w w'/\AY (U w) w' [Ib b a (R1 es)]:=by
 refine AS (fn:=Tryz.f56) (c:=oE) (n:=8) ?_;have x:=Wk.start w;refine AC p9 x [] λl v=>?_;refine AH false (λh=>nomatch h) (λ_=>?_);refine Bn BH p8 [N (U l) [] 107] v [] λw2 u=>?_;have f:=u.entRow 0 (g:=(U l)) (ε:=107) (n:=3) (λe r=>r=IR e) (by kernel_rfl);refine xw f.H (f.ix 0) (f.at 0 rfl) es (List.map IR es) (Eh _) j o (Mb (d.below f.B) (λr hr=>by obtain⟨e,_,rfl⟩:=mem_map.1 hr;rfl)) (Cr p8) (by kernel_rfl) (.tmp 5) (.tmp 6) 67 (by kernel_rfl) (by kernel_rfl) (by kernel_rfl) (by decide) (by kernel_rfl) (by kernel_rfl) (λr hr=>by obtain⟨e,_,rfl⟩:=mem_map.1 hr;rfl) (λr hr=>by obtain⟨e,_,rfl⟩:=mem_map.1 hr;rfl) (by((try simp only[maxLen,length_append,length_cons,length_nil,length_singleton])<;>omega)) λq p w3 y s=>?_;have t:=f.put 0 (by simp) s y;refine AC AH2 t [] λz k=>?_;have m:(R1 es)=([])++es:=by unfold R1;rfl
 exact AN k (0,0) (V q ((([])++es).length) p) ⟨q,p,by rw[m]<;>rfl,k.B,by rw[m];exact k.own0 [0] rfl (by decide)⟩
theorem oM (A:Option Addr) (es:List (Int×Int×Int)) (c:Nat) (w:World) (b:Dl w A es) (d:es.length<=4294967296):Calls Tryz.prog 56 ([V A es.length c]:List Value).toArray w λe w'=>∃(i:Option Addr) (f:Nat),e=.returned (V i es.length f)/\Below (U w) w w'/\AY (U w) w' [Ib i f es]:=by
 cases A with
 | none=>
  rcases b with h | ⟨g,off,h,_⟩
  ·have:=congrArg length h;simp at this;subst this;exact YG c w
  cases h
 | some a=>exact hU a es c w b d
end
end Go.Proofs.YtkpemkkbjfbmaaaGreat
namespace Go.Proofs.YtkpemkkbjfbmaaaGreat
open List
open Go.RowKit
set_option maxRecDepth 100000
set_option maxHeartbeats 1000000
theorem AY.mono {b a:Nat} {w:World} {L:List Th} (h:AY b w L) (hb:a<=b):AY a w L:=
 ⟨Nat.le_trans hb h.base,h.all,λi t ht k hf=>⟨Nat.le_trans hb (h.lo i t ht k hf).1,(h.lo i t ht k hf).2⟩,h.apart⟩
section
variable {P:Program} {α:Type} {T:TypeId} {n:Nat} {rel:α->List Value->Prop} {b:Nat} {A:Option Addr} {c:Nat} {l:List α} {L:List Th} {w:World} {k:Nat} {E:Nat->Value}
theorem Mh (H:AY b w L) (i:Nat) (hi:L[i]?=some (Th.row T n rel A c l)) (e:α) (row:List Value) (a0:rel e row) (g:Nat)
  (y:Ax.good w ⟨g,0,row,T,true⟩) (o:Oper) (s x:Operand) (t:TypeId) (ho:o.op=.call { callee:=.builtin .append,args:=#[s,x],argTypes:=#[t,t] })
  (ht:P.underlying t=some (.slice T)) (a:(P.info? T).map (λi=>(i.zero.map (·.cells.size),i.size,Nat.ble i.bytes 1024))=some (some n,n,true)) (e0:0<n)
  (hs:BK k E s=.slice A l.length c) (hx:BK k E x=.slice (some ⟨g,0,none⟩) 1 1) (hn:row.length=n) (h1:row.all (·.oneCell')=true) (b0:l.length+1<=100000000000) :
  ∃A' c' w',(execOp (BK k E) o).run P w=.ok (.value (.slice A' (l++[e]).length c')) w'/\AY b w' (L.set i (Th.row T n rel A' c' (l++[e])))/\Below b w w':=by
 obtain⟨rs,g0,hP⟩:(Th.row T n rel A c l).P w:=H.all i _ hi;obtain⟨d,j0,z,hz,d0,p,k0⟩:∃d,P.info? T=some d/\∃z,d.zero=some z/\z.cells.size=n/\d.size=n/\d.bytes<=1024:=by
  cases hi:P.info? T with
  | none=>rw[hi]at a;cases a
  | some d=>
   rw[hi]at a;simp only[Option.map_some,Option.some.injEq,Prod.mk.injEq,Option.map_eq_some_iff]at a;obtain⟨⟨z,h1,h2⟩,m,h4⟩:=a;exact⟨d,rfl,z,h1,h2,m,Nat.le_of_ble_eq_true h4⟩
 have l0:l.length+1<=maxLen:=by unfold maxLen;omega
 have h:(l.length+1)*d.bytes<=140737488355328:=Nat.le_trans (Nat.mul_le_mul b0 k0) (by decide);have v:∀j u,row[j]?=some u->w.cell? ((⟨g,0,none⟩:Addr).add j)=some u:=λj u hu=>by
  have c0:(⟨g,0,none⟩:Addr).add j=⟨g,j,none⟩:=by
   unfold Addr.add
   split
   ·rename_i hj;rw[hj]
   simp
  rw[c0];exact FI y hu rfl (by show j=0+j;omega) rfl
 obtain⟨v',w',hr,h2,m,_,h5⟩:=run_append_own_at (P:=P) (w:=w) 0 t o.type T d z n d.bytes ht j0 hz p rfl d0 e0 _ _ _ hP ⟨g,0,none⟩ 1 1 row (by rw[hn,Nat.one_mul]) v (λu hu=>all_eq_true.1 h1 u hu) l0 h (Nat.zero_le _);have hv:∃f c',v'=.slice (some ⟨f,0,none⟩) (l.length+1) c':=by
  rcases h2.2 with⟨_,h0⟩ | ⟨f,cap,m0,rfl,_⟩
  ·omega
  exact⟨f,cap,rfl⟩
 obtain⟨f,c',rfl⟩:=hv;refine⟨some ⟨f,0,none⟩,c',w',?_,H.set i hi m.size ⟨rs++[row],Np a0 g0,?_⟩ (λq hq=>?_) (λq hq i0=>m.block q hq λhe=>i0 (DC hP he.symm).1),⟨m.os,m.tape,m.output,m.size,λq hq=>m.block q (Nat.lt_of_lt_of_le hq H.base) λhe=>?_⟩⟩
 ·unfold execOp;simp only[ho,resolve,invoke,builtin,Sem.run_bind,Sem.run_pure,Result.andThen_ok,map_toArray,map_cons,map_nil,hs,hx,hr];rw[length_append,length_singleton]
 ·rw[length_append,length_singleton,flatten_append];simpa using h2
 ·have r:some (⟨f,0,none⟩:Addr)=some ⟨q,0,none⟩:=hq;obtain rfl:f=q:=by injection r with r;injection r
  refine⟨(KP h2 (g:=f) rfl).2,?_⟩;rcases h5 with h5 | h5
  ·exact .inl (DC hP (h5.symm.trans rfl)).1
  right;have:f=w.heap.size:=Option.some.inj (show some f=some w.heap.size from h5);omega
 have:=(H.lo i _ hi q (DC hP he.symm).1).1;omega
end
section
variable {P:Program} {ops:Array Oper} {Q:Exit->Act->World->Prop} {md:Region.Mode} {n:Nat} {E:Nat->Value}
theorem I4 {a:Array Bool} {fuel i:Nat} {w w':World} {v:Value} (o:Oper) (hx:(execOp (BK n E) o).run P w=.ok (.value v) w') (b:wpAny P md ops Q fuel (a.setIfInBounds i true) (Fr n (A8 E o.dst v)) w') (hr:Region.ready md ops a=[i]:=by kernel_rfl) (ho:ops[i]?=some o:=by kernel_rfl) (hg:o.guard=none:=by kernel_rfl):wpAny P md ops Q (fuel+1) a (Fr n E) w:=by refine Km hr ho hg ?_;unfold Oper.wp;rw[D8,hx];rw[<-Eo]at b;exact b
theorem On {a:Array Bool} {fuel i:Nat} {w w':World} (o:Oper) (hr:Region.ready md ops a=[i]) (ho:ops[i]?=some o) (hg:o.guard=none)
  (hx:(execOp (BK n E) o).run P w=.ok .skip w') (b:wpAny P md ops Q fuel (a.setIfInBounds i true) (Fr n (A8 E o.dst undef)) w'):wpAny P md ops Q (fuel+1) a (Fr n E) w:=by refine Km hr ho hg ?_;unfold Oper.wp;rw[D8,hx];rw[<-Eo]at b;exact b
end
section
variable {P:Program} {ops:Array Oper} {Q:Exit->Act->World->Prop} {md:Region.Mode} {n:Nat} {E:Nat->Value}
theorem C5 {b:Array Bool} {fuel i:Nat} {w:World} {v:Value} (o:Oper) (g:∀c a w,Q (.panic c) (a.put o.dst v) w->Q (.panic c) a w) (f:wpAny P md ops Q fuel (b.setIfInBounds i true) (Fr n (A8 E o.dst v)) w) (ho:ops[i]?=some o:=by kernel_rfl) (hg:o.guard=none:=by kernel_rfl) (hs:Region.noSelect ops=true:=by kernel_rfl) (hf:Region.free md ops b i=true:=by kernel_rfl) (hr:(Region.ready md ops b).contains i=true:=by kernel_rfl) (hv:(Dp P (execOp (BK n E) o) ⟨0,[],(0,0),[]⟩).map (λp=>(p.1,p.2.eqs))=some (.value v,[]):=by kernel_rfl):wpAny P md ops Q (fuel+1) b (Fr n E) w:=by
 refine wpAny_take ho hs hf hr g (.inl ⟨?_,λu=>?_⟩) (by rw[Eo];exact f)
 ·unfold Region.wanted;rw[hg]
 rw[D8]
 cases hl:Dp P (execOp (BK n E) o) ⟨0,[],(0,0),[]⟩with
 | none=>rw[hl]at hv;cases hv
 | some p=>
  obtain⟨r,h⟩:=p;rw[hl]at hv;simp only[Option.map_some,Option.some.injEq,Prod.mk.injEq]at hv;obtain⟨rfl,h2⟩:=hv;exact GK _ _ _ _ hl (λe he=>by cases he) (λq d=>by rw[h2]at d;cases d)
end
abbrev OM:=List (Int×Int×Int)×Option Addr×Nat
abbrev Sz (x:OM):List Value:=[V x.2.1 x.1.length x.2.2]
abbrev O8 (x:OM):Th:=Ib x.2.1 x.2.2 x.1
abbrev El (A:Option Addr) (c:Nat) (xs:List OM):Th:=Th.row 67 1 (λe r=>r=Sz e) A c xs
abbrev Dv (xs:List OM):Th:=Th.all (xs.map O8)
theorem AY.addFam {β:Type} {b:Nat} {w:World} {L:List Th} (h:AY b w L) (f:β->Th):AY b w (L++[Th.all (([]:List β).map f)]):=
 h.add _ (λu hu=>by simp at hu) (λk ⟨u,hu,_⟩=>by simp at hu)
theorem Wk.addFam {β:Type} {w0 w:World} {M:List Ax} {L T:List Th} (K:Wk w0 w M L T) (f:β->Th):Wk w0 w M (L++[Th.all (([]:List β).map f)]) T:=K.join (Below.refl _ _) ((AY.nil (Nat.le_refl _)).addFam f)
theorem FW.ex {lo hi v:Nat} {xs:List (Ex×List Value)} {u:World} (h:(FW lo hi xs).P u) (hl:v<=lo):∀p∈xs,DD (λg=>v<=g) u p.1 p.2:=λp a=>DD.keep (Nat.le_refl _) (λg hg _=>⟨Nat.le_trans hl hg.1,rfl⟩) _ _ (h.2 p a)
theorem Wk.newer {w0 u w:World} {M:List Ax} {X T:List Th} {b:Nat} {ns:List Int} (K:Wk w0 u M (BV w0 b ns::CI b w::X) T) (f:w0.heap.size=b) {e:Ax} (j:Nat) (c:M[j]?=some e):w.heap.size<=e.id:=by
 have hl:=(List.getElem?_eq_some_iff.1 c).1;have hx:(M.map Th.ent++((BV w0 b ns::CI b w::X)++T))[j]?=some (Th.ent e):=by rw[getElem?_append_left (by rw[length_map];exact hl),getElem?_map,c];rfl
 have d:=(K.H.lo j _ hx e.id rfl).1;refine Nat.le_of_not_lt λa=>?_;by_cases hb:e.id=b
 ·exact K.H.apart j (K.ix 0) _ _ hx (K.at 0 rfl) (by unfold Wk.ix;omega) e.id rfl hb
 exact K.H.apart j (K.ix 1) _ _ hx (K.at 1 rfl) (by unfold Wk.ix;omega) e.id rfl ⟨by omega,a⟩
theorem P2 {S:Nat->Prop} {u:World}:∀ {xs:List (Ex×List Value)},(∀p∈xs,DD S u p.1 p.2)->Fb S u (xs.map (·.1)) (xs.map (·.2))
 | [],_=>by unfold Fb;rfl
 | p::xs,h=>by rw[map_cons,map_cons];unfold Fb;exact⟨_,_,rfl,h p (by simp),P2 λq a=>h q (by simp[a])⟩
theorem xt {S:Nat->Prop} {u:World} {x:Ex} {cs:List Value} (h:DD S u x cs):cs.length=10:=by obtain⟨_,_,_,_,_,_,_,_,_,_,_,_,rfl⟩:=h.cells;rfl
theorem LY.node {b:Nat} {ns:List Int} {n:Int} {h:Nat} {t:Ty} {w w':World} {g c:Nat} {x:Ex} {xs:List (Ex×List Value)} (hx:DL n h t x) (e:x.ks=xs.map (·.1)) (a:∀p∈xs,DD (λg=>w.heap.size<=g) w' p.1 p.2) (hg:(U w)<=g) (he:Ax.good w' (N g ((xs.map (·.2)).flatten) 70)) (ho:Br b ns w'/\CU b w w'):LY b ns n h t w (.returned (D (Ad x (θ g) c))) w':=
 ⟨x,_,_,rfl,hx,Oh (by rw[e];exact P2 a) (S3 hg (λr hr=>by obtain⟨p,d,rfl⟩:=mem_map.1 hr;exact xt (a p d)) he),ho⟩
def NB (ks:List Ex):Ex:=.mk 0 0 0 0 0 0 [] 0 0 ks
theorem qq {S:Nat->Prop} {u:World} {ks:List Ex} {A:Option Addr} {c:Nat} {e:Ex} (h:DD S u (NB ks) (Ad (NB ks) A c)) (he:e.ks=ks):DD S u e (Ad e A c):=by
 unfold NB DD at h;obtain⟨A',c',rs,h1,h2,h3⟩:=h;have h4:Value.slice A ks.length c=.slice A' ks.length c':=by have:=congrArg (λl:List Value=>l[9]?) h1;exact Option.some.inj this
 simp only[Value.slice.injEq,true_and]at h4;obtain⟨rfl,rfl⟩:=h4;exact Oh (by rw[he];exact h2) h3
theorem I9 {b:Nat} {ns:List Int} {n:Int} {h:Nat} {t:Ty} {w:World}:∀e w',LY b ns n h t w e w'->Br b ns w'/\CU b w w':=λ_ _ ⟨_,_,_,_,_,_,a,h2⟩=>⟨a,h2⟩
theorem EN {b:Nat} {ns:List Int} {n:Int} {h lo:Nat} {t:Ty} {u:World} (hl:lo<=(U u)) {e:Ending} {w':World} (a:LY b ns n h t u e w'):∃v,e=.returned v/\Br b ns w'/\CU b u w'/\CO lo n h t v w':=by obtain⟨x,A,c,rfl,i,h2,f,d⟩:=a;exact⟨_,rfl,f,d,x,A,c,rfl,i,DD.keep (Nat.le_refl _) (λg hg _=>⟨Nat.le_trans hl hg,rfl⟩) _ _ h2⟩
theorem Nc {s:Ty} (h:s∈L7):s∈Ek:=by simp only[L7,Ek,mem_cons,not_mem_nil,or_false]at h ⊢;rcases h with rfl | rfl | rfl | rfl<;>simp
theorem OQ {t:Ty} {f:FuncId} {u:World} {b:Nat} {ns:List Int} (c:Br b ns u) (h:Calls Tryz.prog f ([]:List Value).toArray u λe w'=>e=.returned (D (BE t))/\Below (U u) u w'):Calls Tryz.prog f ([]:List Value).toArray u λe w'=>∃v,e=.returned v/\Br b ns w'/\CU b u w'/\v=D (BE t):=
 h.mono λe w' ⟨he,a⟩=>⟨_,he,c.below a,.of_below a,rfl⟩
attribute [local irreducible] BI BQ AD AE AG Au Ab AO A8 Bi Ct BX EE EH DW BO At Fr
end Go.Proofs.YtkpemkkbjfbmaaaGreat

/- Contracts of functions, part 29. -/
import Derived.Test.YtkpemkkbjfbmaaaGreatMc28
import Derived.Test.YtkpemkkbjfbmaaaGreatMc26
import Derived.Test.YtkpemkkbjfbmaaaGreatMc27
set_option linter.all false
namespace Go.Proofs.YtkpemkkbjfbmaaaGreat
open List
noncomputable section
open Go.RowKit
set_option maxRecDepth 100000
set_option maxHeartbeats 1000000
theorem mV {h:Nat}:∀ {ks:List Ex},(∀k∈ks,nE k<=4 ^ h)->Hc ks<=ks.length*4 ^ h
 | [],_=>Nat.zero_le _
 | k::ks,hk=>by rw[Hc,length_cons,Nat.succ_mul];have b:=hk k (by simp);have h2:=mV λq a=>hk q (mem_cons_of_mem k a);omega
theorem TO:∀ {ks:List Ex},(∀k∈ks,EB k)->JJ ks
 | [],_=>by unfold JJ;trivial
 | k::ks,hk=>by unfold JJ;exact⟨hk k (by simp),TO λq a=>hk q (mem_cons_of_mem k a)⟩
def gq (h:Nat) (x:Ex):Prop:=EB x/\nE x<=4 ^ h
theorem Ha {h:Nat} {op num den mu hu du c m:Int} {nm:List UInt8} {ks:List Ex} (ho:0<=op/\op<=100) (hc:0<=c/\c<=100) (hn:0<=num/\num<=100) (hd:0<=den/\den<=100) (hl:nm.length<=100) (f:ks.length<=3) (h2:op=12\/op=13->∃a b,ks=[a,b]) (l:op=18->∃a b c,ks=[a,b,c]) (d:∀k∈ks,gq h k):gq (h+1) (.mk op num den mu hu du nm c m ks):=by
 refine⟨?_,?_⟩
 ·unfold EB;exact⟨by omega,by omega,TO λk e=>(d k e).1⟩
 rw[nE];have j:=mV (h:=h) λk e=>(d k e).2;have i:ks.length*4 ^ h<=3*4 ^ h:=Nat.mul_le_mul_right _ f;have g:0<4 ^ h:=Nat.pow_pos (by decide);rw[Nat.pow_add];omega
theorem Zk:∀q∈G5,(0<=q.1/\q.1<=100)/\0<=q.2/\q.2<=100:=by decide
theorem ZN:∀q∈PX,(0<=q.1/\q.1<=100)/\0<=q.2/\q.2<=100:=by decide
theorem qb:∀a b c d e f g k:Bool,∀q∈(cond a ([102]::cond e [[114,51]] []) (cond b (cond f [[114,50]] []++cond g [[97]] []) (cond c [[104]] (cond d (cond k [[114,49]] []) ([103]::cond g [[114,52]] [])))):List (List UInt8)),q.length<=100:=by decide
theorem mU {t:Ty} {n:Int} {nm:List UInt8} (h:nm∈LG t n):nm.length<=100:=qb _ _ _ _ _ _ _ _ nm h
theorem Zc {n:Int}:∀ {h:Nat} {t:Ty} {x:Ex},DL n h t x->gq h x:=by
 intro h t x hx;have z:(0:Int)<=0/\(0:Int)<=100:=⟨by decide,by decide⟩;have l0:([]:List UInt8).length<=100:=by decide
 have d:∀ {op:Int} {P:Prop},op≠12/\op≠13->(op=12\/op=13->P):=λf h2=>by rcases h2 with h2 | h2<;>omega
 have b:∀ {op:Int} {P:Prop},op≠18->(op=18->P):=λf h2=>absurd h2 f;have e:∀ {h:Nat},∀k∈([]:List Ex),gq h k:=λk a=>by cases a
 induction hx with
 | tru h c hc=>exact Ha (by decide) (by omega) z z l0 (by decide) (d (by decide)) (b (by decide)) e
 | name h t nm hm=>exact Ha (by decide) z z z (mU hm) (by decide) (d (by decide)) (b (by decide)) e
 | past h t nm op c ht hop f h3=>
  have hl:nm.length<=100:=by rcases ht with⟨_,rfl⟩ | ⟨_,rfl⟩<;>decide
  exact Ha (by omega) (by omega) z z hl (by decide) (d (by omega)) (b (by omega)) e
 | num h t q ht h5 hq=>exact Ha (by decide) z (Zk q hq).1 (Zk q hq).2 l0 (by decide) (d (by decide)) (b (by decide)) e
 | not h x hx ih=>exact Ha (by decide) z z z l0 (Nat.le_of_ble_eq_true rfl) (d (by decide)) (b (by decide)) λk a=>by rw[mem_singleton.1 a];exact ih
 | neg h t x ht hx ih=>exact Ha (by decide) z z z l0 (Nat.le_of_ble_eq_true rfl) (d (by decide)) (b (by decide)) λk a=>by rw[mem_singleton.1 a];exact ih
 | round h t x q m ht hq m0 m6 hx ih=>exact Ha (by decide) z (ZN q hq).1 (ZN q hq).2 l0 (Nat.le_of_ble_eq_true rfl) (d (by decide)) (b (by decide)) λk a=>by rw[mem_singleton.1 a];exact ih
 | scale h t nm x ht hx ih=>
  have hl:nm.length<=100:=by rcases ht with⟨_,rfl⟩ | ⟨_,rfl⟩<;>decide
  exact Ha (by decide) z z z hl (Nat.le_of_ble_eq_true rfl) (d (by decide)) (b (by decide)) λk a=>by rw[mem_singleton.1 a];exact ih
 | two h op t t1 t2 x y ht hx hy ih1 ih2=>
  have ho:5<=op/\op<=15:=by unfold Nd at ht;omega
  exact Ha (by omega) z z z l0 (Nat.le_of_ble_eq_true rfl) (λ_=>⟨x,y,rfl⟩) (b (by omega)) λk a=>by
   rcases mem_cons.1 a with rfl | a
   ·exact ih1
   rw[mem_singleton.1 a];exact ih2
 | ite h t x y z' hx hy hz ih1 ih2 ih3=>
  exact Ha (by decide) z z z l0 (Nat.le_of_ble_eq_true rfl) (d (by decide)) (λ_=>⟨x,y,z',rfl⟩) λk a=>by
   rcases mem_cons.1 a with rfl | a
   ·exact ih1
   rcases mem_cons.1 a with rfl | a
   ·exact ih2
   rw[mem_singleton.1 a];exact ih3
structure AIM (d:Df):Prop where
 lim:Ii d
 nE:nE d.body<=1000000
 frm:0<=d.frm/\d.frm<=30000
theorem AGG:∀(i:Nat),(PE.getD i []).length<=100/\PE.getD i []≠[104]
 | 0 | 1 | 2 | 3=>⟨by decide,by decide⟩
 | _+4=>⟨Nat.zero_le _,λh=>absurd (show([]:List UInt8)=[104]from h) (by decide)⟩
theorem AGH:∀(i:Nat),(XO.getD i []).length<=100/\XO.getD i []≠[104]
 | 0 | 1=>⟨by decide,by decide⟩
 | _+2=>⟨Nat.zero_le _,λh=>absurd (show([]:List UInt8)=[104]from h) (by decide)⟩
theorem Ny {wl:Bool} {d:Df} (h:IZ 3 wl d):AIM d:=by
 have b:EB BU:=⟨Nat.zero_le _,Nat.zero_le _,trivial⟩
 cases h with
 | ins d hd=>
  simp only[Fa,mem_cons,not_mem_nil,or_false]at hd;rcases hd with rfl | rfl | rfl | rfl | rfl<;>exact⟨⟨b,by decide⟩,by decide,by decide,by decide⟩
 | sc nm t frm es h hf he=>
  have hl:nm.length<=100:=by rcases h with⟨rfl,_⟩ | ⟨rfl,_⟩<;>decide
  exact⟨⟨b,by show nm.length<=_;omega⟩,by show nE BU<=_;decide,by show 0<=frm;omega,by show frm<=30000;omega⟩
 | rule i frm x n hi hf hn hx=>
  have a:=Zc hx;exact⟨⟨a.1,Nat.le_trans (AGG i).1 (by decide)⟩,Nat.le_trans a.2 (by decide),by show 0<=frm;omega,by show frm<=30000;omega⟩
 | pay i x mode q hi h0 h6 hq hx=>
  have a:=Zc hx;exact⟨⟨a.1,Nat.le_trans (AGH i).1 (by decide)⟩,Nat.le_trans a.2 (by decide),by show(0:Int)<=20454;decide,by show(20454:Int)<=30000;decide⟩
structure QE (b:Nat) (w:World) (A:Option Addr) (c:Nat) (ds:List Df):Prop where
 rowsX:∃rs,∀u,CU b w u->FB Cg u ds rs/\DF Cg u 21 A rs
 cap:ds.length<=c
 len:ds.length<=30
 ok:∀d∈ds,IZ 3 false d
 full:YY ds
theorem oe.made {b:Nat} {ns:List Int} {w w':World} {e:Ending} (h:oe b ns 3 false w e w'):∃A c ds,e=.returned (D [Y Cj,V A ds.length c])/\QE b w' A c ds/\Br b ns w'/\CU b w w':=by obtain⟨A,c,ds,k,h2,j,i,g,f,d,a⟩:=h;exact⟨A,c,ds,k,⟨h2,j,i,g,f⟩,d,a⟩
section
variable {b:Nat} {w:World} {A:Option Addr} {c:Nat} {ds:List Df} (h:QE b w A c ds)
include h
theorem QE.rows:∀u,CU b w u->rowsDf u A ds:=λu hu=>by obtain⟨rs,a⟩:=h.rowsX;exact⟨rs,a u hu⟩
theorem QE.lim:∀d∈ds,Ii d:=λd hd=>(Ny (h.ok d hd)).lim
theorem QE.ex:∀d∈ds,EB d.body:=λd hd=>(Ny (h.ok d hd)).lim.1
theorem QE.nE:∀d∈ds,nE d.body<=1000000:=λd hd=>(Ny (h.ok d hd)).nE
theorem QE.frm:∀d∈ds,0<=d.frm/\d.frm<=30000:=λd hd=>(Ny (h.ok d hd)).frm
end
attribute [local irreducible] BI BQ AD AE AG Au Ab AO A8 Bi Ct BX EE EH DW BO At Fr
def SR:Ex:=.mk 3 0 0 0 0 0 [104] 0 0 []
def SP:Ex:=.mk 1 25 2 1 (-1) 0 [] 0 0 []
def SQ:Ex:=.mk 7 0 0 0 0 0 [] 0 0 [SR,SP]
def Xs:Ex:=.mk 0 0 0 0 0 0 [] 0 0 []
def KX:List Df:=[⟨1,[104],false,0,1,0,0,[],Xs,0,0,0⟩,⟨4,[112],false,0,0,0,0,[],SQ,4,1,20⟩]
def wh:List AM:=[(2,0,0,0,0,0),(1,0,25,2,0,0),(7,0,0,0,0,0)]
def Rf:DY:=([112],true,4,1,20,wh)
def KW:F2:=([112],(833,20),true,4165)
def Oe (l:List Dz):EA:=⟨[[104]],[],[],[Rf],l,[]⟩
theorem AGP:CB [109] KX 0=([[104]],[],[],[Rf],0):=by kernel_rfl
theorem AGO:ES (Oe [([104],10,3)])=([KW],0):=by kernel_rfl
theorem AGN:ES (Oe [])=([],16):=by kernel_rfl
theorem AGM:Bh (Oe [([104],2,1)]) [] wh=((25,1,0),3):=by kernel_rfl
theorem AGL:Cc [[104]] [] [] [Rf]=true:=by kernel_rfl
theorem Md (w:World):rowsEx w none []:=⟨[],rfl,.inl rfl⟩
theorem qk {w:World} {b:Nat} (d:Ax.good w (N (b+1) ([Ad SR none 0,Ad SP none 0].flatten) 70)) (c:Ax.good w (N (b+3) ([CL ⟨1,[104],false,0,1,0,0,[],Xs,0,0,0⟩ none 0 none 0,CL ⟨4,[112],false,0,0,0,0,[],SQ,4,1,20⟩ none 0 (some ⟨b+1,0,none⟩) 2].flatten) 72)):rowsDf w (some ⟨b+3,0,none⟩) KX:=by have a:rowsEx w (some ⟨b+1,0,none⟩) [SR,SP]:=⟨[Ad SR none 0,Ad SP none 0],⟨_,_,rfl,Ro (Md w),_,_,rfl,Ro (Md w),rfl⟩,Db (by simp) d⟩;exact⟨[CL ⟨1,[104],false,0,1,0,0,[],Xs,0,0,0⟩ none 0 none 0,CL ⟨4,[112],false,0,0,0,0,[],SQ,4,1,20⟩ none 0 (some ⟨b+1,0,none⟩) 2],⟨_,_,rfl,LV (.inl rfl) (Md w),_,_,rfl,LV (.inl rfl) a,rfl⟩,Db (by simp) c⟩
noncomputable def aj:Code:=Tryz.f30.body.getD .skip
noncomputable def AFY:=AB 90 [.code aj]
theorem qj (w:World):Calls Tryz.prog 30 ([]:List Value).toArray w λe w'=>∃g,e=.returned (D [Y [109],φ g 2 2])/\Below (U w) w w'/\rowsDf w' (θ g) KX:=by refine AS (fn:=Tryz.f30) (c:=aj) (n:=16) ?_;refine Jx 90 AFY (M':=[N (U w) [Y [109],V (some ⟨U w+3,0,none⟩) 2 2] 27,N (U w+1) ([Ad SR none 0,Ad SP none 0].flatten) 70,N (U w+2) (Ad SQ (some ⟨U w+1,0,none⟩) 2) 70,N (U w+3) ([CL ⟨1,[104],false,0,1,0,0,[],Xs,0,0,0⟩ none 0 none 0,CL ⟨4,[112],false,0,0,0,0,[],SQ,4,1,20⟩ none 0 (some ⟨U w+1,0,none⟩) 2].flatten) 72]) (Wk.start w) [(2,0),(2,0),(0,0)] (by kernel_rfl) λb a=>?_;exact AN a (0,0) (D [Y [109],V (some ⟨U w+3,0,none⟩) 2 2]) ⟨_,rfl,a.B,qk (a.ent 1 rfl) (a.ent 3 rfl)⟩
theorem Yg (w:World):(binOp .eql 54 (D (EY KW)) (D (EY KW))).run Tryz.prog w=.ok (I true) w:=by show(binOp .eql 54 (.agg #[Y [112],J 833,J 20,I true,J 4165]) (.agg #[Y [112],J 833,J 20,I true,J 4165])).run Tryz.prog w=_;simp[go_sem]
theorem PA {w:World} {g:Nat} {e:Dz} {t:TypeId} (h:Ax.good w ⟨g,0,Fn e,t,true⟩):Kg w (θ g) [e]:=Db (rs:=[Fn e]) (λr hr=>by rw[mem_singleton.1 hr];rfl) (by simpa using h)
noncomputable def aV:Code:=Tryz.f7.body.getD .skip
def tR:=ν [.code aV]
def tQ:=Ψ tR
def tP:=Ψ tQ
def tO:=Ψ tP
def tN:=Ψ tO
def tM:=Ac 5 (AD tN)
def AEp:=Ω tM
theorem PZ (w:World):Calls Tryz.prog 7 ([]:List Value).toArray w λe w'=>e=.returned (I true)/\Below (U w) w w':=by
 refine AS (fn:=Tryz.f7) (c:=aV) (n:=73) ?_;refine AC tR (Wk.start w) [] λw1 K1=>?_;refine BL (qj w1) λen w2 i=>?_;obtain⟨gh,rfl,b2,hD⟩:=i;refine⟨_,rfl,?_⟩;have K2:=K1.below b2;have f1:∀d∈KX,Ii d:=by intro d hd;simp only[KX,mem_cons,not_mem_nil,or_false]at hd;rcases hd with rfl | rfl<;>simp[Ii,Xs,SQ,SR,SP,EB,JJ]
 have f3:∀d∈KX,nE d.body<=1000000:=by intro d hd;simp only[KX,mem_cons,not_mem_nil,or_false]at hd;rcases hd with rfl | rfl<;>decide
 refine AC tQ (Wk.start w2) [] λw3 J3=>?_;have K3:=K2.below J3.B;refine BL (PL [109] _ KX 2 0 w3 (hD.below J3.B) (by decide) (by decide) f1 (by decide) (λd hd=>by simp only[KX,mem_cons,not_mem_nil,or_false]at hd;rcases hd with rfl | rfl<;>exact Nat.zero_le _) (λd hd=>(f1 d hd).1) f3) λen y i=>?_;rw[AGP]at i;obtain⟨x,q,t,p,x1,s,o,r,m,j,rfl,q1,q3,b4,H4⟩:=i;refine⟨_,rfl,?_⟩;obtain rfl:x1=[]:=map_eq_nil_iff.1 q1;have l3:j.length=1:=by have:=congrArg length q3;simpa using this
 rw[l3];have K4:=K3.join b4 H4;refine An tP [N (U y) [V x 1 q,V t 0 p,V s 0 o,V r 1 m] 33,N (U y+1) (Fn ([104],10,3)) 93] K4 [(0,0),(0,0)] λw5 K5=>?_;have ok:∀ {l:List Dz} {nA:Option Addr} {nc:Nat} {u:World},AY (U w) u ([Bo x q [[104]],El t p [],Dv [],Bo s o [],Im r m j,Ge j]:List Th)->Kg u nA l->l.length<=4294967296->Jg u ⟨x,q,t,p,s,o,r,m,nA,nc,none,0⟩ (Oe l):=λ{l nA nc u} H hn hl=>by refine⟨H.rowsStr 0 rfl,H.rowsSc 1 2 rfl rfl,H.rowsStr 3 rfl,?_,hn,⟨[],trivial,.inl rfl⟩,(show 1<=4294967296 by decide),Nat.zero_le _,Nat.zero_le _,(show 1<=4294967296 by decide),hl,Nat.zero_le _,(λe he=>by cases he),(λe he=>by cases he)⟩;have:=H.rowsRt 4 5 rfl rfl;rwa [q3]at this
 have b0:∀(l:List Dz),∀e∈(Oe l).rts,e.2.2.2.2.2.length<=4294967296:=λl e he=>by rw[mem_singleton.1 he];decide
 have O5:AY (U w) w5 ([Bo x q [[104]],El t p [],Dv [],Bo s o [],Im r m j,Ge j]:List Th):=K5.own0 [0,1,2,3,4,5] rfl (by decide);have p0:Kg w5 (some ⟨U y+1,0,none⟩) [([104],10,3)]:=PA (K5.ent 1 rfl);have h0:=Pt (ok (nc:=1) O5 p0 (by decide)) (b0 _);rw[AGO]at h0;refine BL h0 λen w6 i=>?_;obtain⟨oA,oc,rfl,b6,H6⟩:=i;refine⟨_,rfl,?_⟩;have K6:=K5.join b6 H6;refine AC tO K6 [(0,0)] λw7 K7=>?_;have O7:AY (U w) w7 ([Bo x q [[104]],El t p [],Dv [],Bo s o [],Im r m j,Ge j]:List Th):=K7.own0 [0,1,2,3,4,5] rfl (by decide);have g0:=Pt (ok (l:=[]) (nA:=none) (nc:=0) O7 (.inl rfl) (by decide)) (b0 _);rw[AGN]at g0;refine BL g0 λen w8 i=>?_;obtain⟨pA,pc,rfl,b8,H8⟩:=i;refine⟨_,rfl,?_⟩;have K8:=K7.below b8;refine An tN [N (U y) [V x 1 q,V t 0 p,V s 0 o,V r 1 m] 33,N (U y+1) (Fn ([104],10,3)) 93,N (U w8) (Fn ([104],2,1)) 93] K8 [(0,0)] λw9 K9=>?_;have O9:AY (U w) w9 ([Bo x q [[104]],El t p [],Dv [],Bo s o [],Im r m j,Ge j]:List Th):=K9.own0 [0,1,2,3,4,5] rfl (by decide);have m0:Kg w9 (some ⟨U w8,0,none⟩) [([104],2,1)]:=PA (K9.ent 2 rfl);have l0:=ok (nc:=1) O9 m0 (by decide);have e0:=TJ (vA:=none) (vs:=[]) (vc:=0) l0 AGL 0 Rf rfl (.inl rfl) rfl (Nat.le_refl _) (λa h=>by cases h) (λv hv=>by cases hv);rw[show Bh (Oe [([104],2,1)]) [] Rf.2.2.2.2.2=((25,1,0),3)from AGM]at e0;refine BL e0 λen z i=>?_;obtain⟨rfl,q0⟩:=i;refine⟨_,rfl,?_⟩;have t0:=K9.below q0;refine Bg 5 tM [N (U y) [V x 1 q,V t 0 p,V s 0 o,V r 1 m] 33,N (U y+1) (Fn ([104],10,3)) 93,N (U w8) (Fn ([104],2,1)) 93,N (U z) (BD (25,1)) 47] t0 [(3,0)] λj0 g=>?_;have hO:Cn 5 EY j0 oA [KW]:=g.H.rowsF (f:=EY) (λ_=>rfl) (g.ix 6) (g.at 6 rfl);obtain⟨go,fo,rfl,k0,d0⟩:=hO.all (by decide);refine Ap g (mem:=[⟨go,fo+0*5,EY KW,54,false⟩,N (U z) (BD (25,1)) 47]) [(14,0,0),(29,1,0)] [⟨13,[(49,V (some ⟨go,fo,none⟩) 1 oc)],.pointer (some ⟨go,fo+0*5,none⟩),true⟩,⟨17,[(51,D (EY KW)),(53,D (EY KW))],I true,true⟩] (λe he=>?_) (λsp a0=>?_) λw0 x0 r0=>?_
 ·simp only[mem_cons,not_mem_nil,or_false]at he;rcases he with rfl | rfl
  ·exact⟨k0,d0 0 _ rfl⟩
  exact g.ent 3 rfl
 ·simp only[mem_cons,not_mem_nil,or_false]at a0;rcases a0 with rfl | rfl
  ·exact BR λ_ E u _=>BJ (sz:=5) (cap:=oc) (len:=1) (k:=0) 42 (.tmp 49) (.const (J 0)) (by decide) Tryz.underlying42
  exact BR λ_ E u _=>DS (k:=.eql) (T:=54) (a:=D (EY KW)) (b:=D (EY KW)) (Yg u)
 refine AC AEp r0 [] λv0 i0=>?_;exact AN i0 (0,0) (I true) ⟨rfl,i0.B⟩
end
end Go.Proofs.YtkpemkkbjfbmaaaGreat
namespace Go.Proofs.YtkpemkkbjfbmaaaGreat
open List
open Go.RowKit
theorem AY.meet {b n:Nat} {w:World} {L ζ:List Th} (h:AY b w L) (hn:∀(i:Nat) (t:Th),L[i]?=some t->∀k,t.F k->k<n) (hz:AY n w ζ) (hb:b<=n):AY b w (L++ζ):=by
 refine⟨h.base,λi t hi=>?_,λi t hi k e=>?_,λi j s t hi g d k hs ht=>?_⟩
 ·rcases D7 hi with hi | ⟨_,hi⟩
  ·exact h.all i t hi
  exact hz.all _ t hi
 ·rcases D7 hi with hi | ⟨_,hi⟩
  ·exact h.lo i t hi k e
  have:=hz.lo _ t hi k e;exact⟨by omega,this.2⟩
 rcases D7 hi with c | ⟨l,c⟩<;>rcases D7 g with a | ⟨f,a⟩
 ·exact h.apart i j s t c a d k hs ht
 ·have:=hn i s c k hs;have:=(hz.lo _ t a k ht).1;omega
 ·have:=hn j t a k ht;have:=(hz.lo _ s c k hs).1;omega
 exact hz.apart _ _ s t c a (by omega) k hs ht
theorem Wk.tickJ {w0 w w':World} {M:List Ax} {L T ζ:List Th} {b:Nat} {ns:List Int} (K:Wk w0 w M L T) (f:w0.heap.size=b) (i:Nat) (hi:L[i]?=some (BV w0 b ns)) (e:Br b ns w') (hb:CU b w w') (d:AY w.heap.size w' ζ):Wk w0 w' M (L++ζ) T:=
 K.add (hb.below (by omega) K.size) (AY.meet (K.tick f i hi e hb).H (λj t c k a=>(K.H.lo j t c k a).2) d K.size)
end Go.Proofs.YtkpemkkbjfbmaaaGreat
namespace Go.Proofs.YtkpemkkbjfbmaaaGreat
open List
set_option maxRecDepth 100000
theorem Fy {ds:List Df} {M:Nat} (i:∀d∈ds,d.ents.length<=M):∀(es:List Nat) (a:List (List UInt8)) (b:List (List (Int×Int×Int))) (c:List (List UInt8)) (d e f:List (List UInt8×Int)),(∀x∈es,x<ds.length)->(∀x∈b,x.length<=M)->
  (CE ds es a b c d e f).1.length<=a.length+es.length/\(CE ds es a b c d e f).2.1.length<=b.length+es.length/\(∀x∈(CE ds es a b c d e f).2.1,x.length<=M)/\(CE ds es a b c d e f).2.2.1.length<=c.length+es.length
 | [],a,b,c,d,e,f,_,hb=>by rw[CE];exact⟨Nat.le_refl _,Nat.le_refl _,hb,Nat.le_refl _⟩
 | x::es,a,b,c,d,e,f,h,hb=>by
  have hx:=h x (by simp);have j:∀y∈es,y<ds.length:=λy g=>h y (by simp[g]);rw[CE,length_cons]
  cases (ds.getD x default).kind==1
  ·cases (ds.getD x default).kind==2
   ·cases (ds.getD x default).kind==5
    ·have:=Fy i es a b c d e f j hb;simp only[cond_false];exact⟨by omega,by omega,this.2.2.1,by omega⟩
    have:=Fy i es a b (c++[(ds.getD x default).name]) d e (Ck f ((ds.getD x default).name) (c.length:Int)) j hb;simp only[cond_false,cond_true];rw[length_append,length_singleton]at this;exact⟨by omega,by omega,this.2.2.1,by omega⟩
   have:=Fy i es a (b++[(id (ds.getD x default).ents)]) c d (Ck e ((ds.getD x default).name) (b.length:Int)) f j (λy g=>by
    rcases mem_append.1 g with g | g
    ·exact hb y g
    rw[mem_singleton.1 g];exact i _ (DR hx))
   simp only[cond_false,cond_true];rw[length_append,length_singleton]at this;exact⟨by omega,by omega,this.2.2.1,by omega⟩
  have:=Fy i es (a++[(ds.getD x default).name]) b c (Ck d ((ds.getD x default).name) (a.length:Int)) e f j hb;simp only[cond_true];rw[length_append,length_singleton]at this;exact⟨by omega,by omega,this.2.2.1,by omega⟩
theorem Ti {n:List UInt8} {ds:List Df} {p:Int} {M:Nat} (a:∀d∈ds,d.ents.length<=M):(AA n ds p).1.length<=ds.length/\(AA n ds p).2.1.length<=ds.length/\(∀x∈(AA n ds p).2.1,x.length<=M)/\(AA n ds p).2.2.1.length<=ds.length:=by have h:=Fy a (Bb n ds p) [] [] [] [] [] [] GV (λ_ h=>by cases h);have hl:=PS (n:=n) (ds:=ds) (p1:=p);simp only[length_nil,Nat.zero_add]at h;unfold AA;exact⟨Nat.le_trans h.1 hl,Nat.le_trans h.2.1 hl,h.2.2.1,Nat.le_trans h.2.2.2 hl⟩
structure Il (ι M:Nat) (r:List (List UInt8)×List (List (Int×Int×Int))×List (List UInt8)×List DY×Int):Prop where
 ins:r.1.length<=ι
 scs:r.2.1.length<=ι
 ent:∀x∈r.2.1,x.length<=M
 pas:r.2.2.1.length<=ι
 rts:r.2.2.2.1.length<=ι
 code:∀x∈r.2.2.2.1,x.2.2.2.2.2.length<=4096
theorem Il.bad (ι M:Nat) (e:Int):Il ι M ([],[],[],[],e):=⟨Nat.zero_le _,Nat.zero_le _,λ_ h=>(by cases h),Nat.zero_le _,Nat.zero_le _,λ_ h=>(by cases h)⟩
theorem MM {n:List UInt8} {ds:List Df} {p:Int} {M ι:Nat} (g:∀d∈ds,d.ents.length<=M) (f:ds.length<=ι) {m:List (List UInt8×Int)}:∀(es:List Nat) (a:Int) (b:List DY),b.length+es.length<=ι->(∀x∈b,x.2.2.2.2.2.length<=4096)->Il ι M (Cq n ds p m es a b)
 | [],a,b,hl,hb=>by have h:=Ti (n:=n) (p:=p) g;rw[Cq];exact⟨Nat.le_trans h.1 f,Nat.le_trans h.2.1 f,h.2.2.1,Nat.le_trans h.2.2.2 f,by simpa using hl,hb⟩
 | x::es,a,b,hl,hb=>by
  rw[length_cons]at hl;rw[Cq]
  cases hc:decide (4096<((Ai (((AA n ds p)).2.2.2.1) (((AA n ds p)).2.2.2.2.1) (((AA n ds p)).2.2.2.2.2.1) m ((κ ds x).body).height ((κ ds x).body) 0).length:Int))
  ·have hc:=of_decide_eq_false hc;have e:(Ai (((AA n ds p)).2.2.2.1) (((AA n ds p)).2.2.2.2.1) (((AA n ds p)).2.2.2.2.2.1) m ((κ ds x).body).height ((κ ds x).body) 0).length<=4096:=by omega
   simp only[cond_false];have go:∀t:DY,t.2.2.2.2.2.length<=4096->Il ι M (Cq n ds p m es a (b++[t])):=λt ht=>MM g f es a (b++[t]) (by rw[length_append,length_singleton];omega) (λy c=>by
    rcases mem_append.1 c with c | c
    ·exact hb y c
    rw[mem_singleton.1 c];exact ht)
   cases (κ ds x).kind==4
   ·exact go _ e
   exact go _ e
  exact Il.bad _ _ _
theorem MN {n:List UInt8} {ds:List Df} {p:Int} {M:Nat} (a:∀d∈ds,d.ents.length<=M) (hn:∀d∈ds,nE d.body<=1000000):∀(es:List Nat) (k:Nat) (m:List (List UInt8×Int)),Il ds.length M (DM n ds p es k m)
 | [],k,m=>by rw[DM];exact MM a (Nat.le_refl _) _ _ _ (by simpa using(FM (n:=n) (p1:=p) hn).2) (λ_ h=>by cases h)
 | x::es,k,m=>by rw[DM];exact MN a hn es _ _
theorem Y4 {n:List UInt8} {ds:List Df} {p:Int} {M:Nat} (a:∀d∈ds,d.ents.length<=M) (hn:∀d∈ds,nE d.body<=1000000):Il ds.length M (CB n ds p):=by
 unfold CB
 cases !(Er n ds)
 ·cases cond (decide (p<0)) (true) (decide (84005<p))
  ·cases !((Ca n ds).2==0)
   ·cases decide (0<((Ca n ds).1.length:Int))
    ·cases !((BC n ds p).2==0)
     ·exact MN a hn _ _ _
     exact Il.bad _ _ _
    exact Il.bad _ _ _
   exact Il.bad _ _ _
  exact Il.bad _ _ _
 exact Il.bad _ _ _
end Go.Proofs.YtkpemkkbjfbmaaaGreat
namespace Go.Proofs.YtkpemkkbjfbmaaaGreat
open List
noncomputable section
open Go.RowKit
set_option maxRecDepth 100000
set_option maxHeartbeats 1000000
attribute [local irreducible] BI BQ AD AE AG Au Ab AO A8 Bi Ct BX EE EH DW BO At Fr
noncomputable def ae:Code:=Tryz.f3.body.getD .skip
def uT:=ν [.code ae]
def uS:=Ψ uT
def uR:=Ψ uS
def eE:=Ψ uR
def uQ:=Ac 5 (AE eE)
def AE8:=Ω uQ
def uP:=Ξ eE
def uO:=Ψ uP
def uN:=Ψ uO
def eD:=Ψ uN
def ku:=Ac 9 (AE eD)
def AAx:=Ω ku
def Nh:=Ξ eD
def Ec (ds:List Df) (ins:List Dz) (pa:List IY):EA:=⟨(CB Cj ds 20464).1,(CB Cj ds 20464).2.1,(CB Cj ds 20464).2.2.1,(CB Cj ds 20464).2.2.2.1,ins,pa⟩
abbrev MC (q:Nat) (A:Option Addr) (n c:Nat):Ax:=(N q [Y Cj,V A n c] 27)
abbrev N2 (q:Nat) (m:HP) (d:EA):Ax:=(N q (Fc m d) 33)
abbrev XW (w0:World) (b:Nat) (ns:List Int) (w4:World) (m:HP) (d:EA) (x1:List OM) (x3:List ON):List Th:=[BV w0 b ns,CI b w4,Bo m.iA m.ic d.ins,El m.sA m.sc x1,Dv x1,Bo m.pA m.pc d.pas,Im m.rA m.rc x3,Ge x3]
theorem mZ {ds:List Df} {ins:List Dz} {pa:List IY} {m:HP} {b:List OM} {a:List ON} {L:List Th} {r:Nat} {u:World} (hok:∀d∈ds,IZ 3 false d) (hl:ds.length<=30) (j:b.map Prod.fst=(Ec ds ins pa).scs) (g:a.map ZQ=(Ec ds ins pa).rts) (H:AY r u ([Bo m.iA m.ic (Ec ds ins pa).ins,El m.sA m.sc b,Dv b,Bo m.pA m.pc (Ec ds ins pa).pas,Im m.rA m.rc a,Ge a]++L)) (hi:Kg u m.nA ins) (l:Gn u m.hA pa) (v:ins.length<=4) (s:pa.length<=2) (k:∀x∈pa,x.2.length<=4):Jg u m (Ec ds ins pa)/\∀e∈(Ec ds ins pa).rts,e.2.2.2.2.2.length<=4294967296:=by
 have o:∀d∈ds,d.ents.length<=3:=λd hd=>by
  cases hok d hd with
  | ins _ hd=>
   simp only[Fa,mem_cons,not_mem_nil,or_false]at hd;rcases hd with rfl | rfl | rfl | rfl | rfl<;>exact Nat.zero_le _
  | sc nm t frm es h hf he=>exact he.len
  | rule i frm x n hi hf hn hx=>exact Nat.zero_le _
  | pay i x mode q hi h0 h6 hq hx=>exact Nat.zero_le _
 have P:=Y4 (n:=Cj) (p:=20464) o λd hd=>(Ny (hok d hd)).nE;have f:=H.rowsSc 1 2 rfl rfl;have c:=H.rowsRt 4 5 rfl rfl;rw[j]at f;rw[g]at c;exact⟨⟨H.rowsStr 0 rfl,f,H.rowsStr 3 rfl,c,hi,l,Nat.le_trans P.ins (by omega),Nat.le_trans P.scs (by omega),Nat.le_trans P.pas (by omega),Nat.le_trans P.rts (by omega),by show ins.length<=_;omega,by show pa.length<=_;omega,λe he=>Nat.le_trans (P.ent e he) (by decide),λe he=>Nat.le_trans (k e he) (by decide)⟩,λe he=>Nat.le_trans (P.code e he) (by decide)⟩
def kt:=Ac 12 (Au Nh)
def Qm:=Ω kt
def kr:=AB (Aq Aa 90 (AE Qm)) (AE Qm)
def kq:=ν (AD (AD kr))
def ko:=Ac 16 (AD kq)
def WW:=Ω ko
def WV:=AB (Aq Aa 90 (AG WW)) (AG WW)
def WU:=AB (Aq Od 90 (AD WV)) (AD WV)
def WT:=AB (Aq BH 90 (AD WU)) (AD WU)
def Ql:=Ψ WT
def km:=Ac 20 (AE Ql)
def AAw:=Ω km
def WS:=AB (Aq Aa 90 (AG Ql)) (AG Ql)
def kj:=AB (Aq Od 90 (AD WS)) (AD WS)
def ki:=Ψ kj
def kh:=Ac 23 (AD ki)
def kg:=Ac 24 (AO kh)
def kf:=Ac 25 (AO kg)
def ke:=Ω kf
def kb:=Ξ ke
def Qk:=Ac 29 (AG kb)
def AAv:=Ω Qk
def kZ:=Ac 31 (AG Qm)
def AAu:=Ω kZ
theorem mD {w:World} {g f k:Nat} {cs ds:List Value} (h:w.rangeAt g f cs) (hd:∀j u,ds[j]?=some u->cs[k+j]?=some u):w.rangeAt g (f+k) ds:=λj u hu=>by have:=h (k+j) u (hd j u hu);rw[Nat.add_assoc];exact this
theorem hY {R:Ending->World->Prop} {b:Nat} {ns:List Int} {w4 w0 u:World} {A:Option Addr} {c:Nat} {ds:List Df} {ins:List Dz} {pa:List IY} {m:HP} {x1:List OM} {x3:List ON} {y1 y2 y3:Th} {q4 q5:Nat} {oA:Option Addr} {w:Nat} {out:List F2} {E:Nat->Value}
  (hok:∀d∈ds,IZ 3 false d) (hl:ds.length<=30) (q1:x1.map Prod.fst=(Ec ds ins pa).scs) (q3:x3.map ZQ=(Ec ds ins pa).rts) (w2:∀(n:Nat) (u:World),AY n u [y1,y2,y3]->Gn u m.hA pa) (il:ins.length<=4) (pl:pa.length<=2) (pe:∀x∈pa,x.2.length<=4) (hq:ES (Ec ds ins pa)=(out,0))
  (K:Wk w0 u [MC q4 A ds.length c,N2 q5 m (Ec ds ins pa)] (XW w0 b ns w4 m (Ec ds ins pa) x1 x3++[Gf m.nA m.nc ins,y1,y2,y3,GE oA w out]) [])
  (hR:∀(u:World) (M:List Ax) (L:List Th),Wk w0 u M (BV w0 b ns::CI b w4::L) []->R (.returned (I true)) u) :
  At Tryz.prog 3 R Nh (Fr 200 (BN E [(5,Z q5),(7,V m.nA ins.length m.nc),(8,V m.hA pa.length m.hc),(9,V oA out.length w),(11,V none 0 0),(12,J ((0:Nat):Int))])) u:=by
 obtain⟨hV,w1,z1⟩:=xg hq;have x4:out.length<=128:=by rw[w1];exact(Rr hV).1
 refine Bp (by kernel_rfl) (λE wx=>∃(i:Nat) (vA:Option Addr) (vc:Nat) (E0:Nat->Value),i<=out.length/\E=BN E0 [(5,Z q5),(7,V m.nA ins.length m.nc),(8,V m.hA pa.length m.hc),(9,V oA out.length w),(11,V vA (CC (out.take i)).length vc),(12,J (i:Int))]/\Wk w0 wx [MC q4 A ds.length c,N2 q5 m (Ec ds ins pa)] (XW w0 b ns w4 m (Ec ds ins pa) x1 x3++[Gf m.nA m.nc ins,y1,y2,y3,GE oA w out,CP vA vc (CC (out.take i))]) []) (λE _=>out.length-AP (E 12)) ⟨0,none,0,E,Nat.zero_le _,rfl,K.addNil 47 2 (λ(e:Int×Int) r=>r=BD e)⟩ ?_;clear K;rintro E wx ⟨i,vA,vc,E0,hi,rfl,K1⟩ m0;refine Al 12 kt K1 [] λu2 K2=>?_;refine Ap K2 [(7,1,3)] [] K2.G (λsp t=>by cases t) λu3 E3 K3=>?_;refine AC Qm K3 [] λu4 K4=>?_;refine AH (cond (decide ((i:Int)<(out.length:Int))) (decide ((i:Int)<((Ec ds ins pa).rts.length:Int))) false) (λc5=>?_) (λc5=>?_)
 ·have c0:i<out.length:=by have:=of_decide_eq_true (Hb c5).1;omega
  obtain⟨e,he⟩:∃e,(Ec ds ins pa).rts[i]?=some e:=⟨_,getElem?_eq_getElem (by omega)⟩;obtain⟨o,ho,O⟩:=z1 i e he;have s2:(CC (out.take i)).length=i:=by unfold CC;rw[length_map,length_take];omega
  have rows:∀ {u:World} {M:List Ax} {vA:Option Addr} {vc:Nat} {l:List (Int×Int)},Wk w0 u M (XW w0 b ns w4 m (Ec ds ins pa) x1 x3++[Gf m.nA m.nc ins,y1,y2,y3,GE oA w out,CP vA vc l]) []->Jg u m (Ec ds ins pa):=λ{u M vA vc l} K=>
   (mZ hok hl q1 q3 (L:=[]) (K.own0 [2,3,4,5,6,7] rfl (by decide)) ((K.own0 [8] rfl (by decide):AY (U w0) u [Gf m.nA m.nc ins]).rowsF (λ_=>rfl) 0 rfl) (w2 _ u (K.own0 [9,10,11] rfl (by decide))) il pl pe).1
  have g0:∀ {u:World} {M:List Ax} {vA:Option Addr} {vc:Nat} {l:List (Int×Int)},Wk w0 u M (XW w0 b ns w4 m (Ec ds ins pa) x1 x3++[Gf m.nA m.nc ins,y1,y2,y3,GE oA w out,CP vA vc l]) []->Cn 5 EY u oA out:=λ{u M vA vc l} K=>K.H.rowsF (f:=EY) (λ_=>rfl) (K.ix 12) (K.at 12 rfl);refine Ao Aa kr K4 [(1,3)] λu6 K6=>?_;refine AX [(5,Z q5),(7,V m.nA ins.length m.nc),(8,V m.hA pa.length m.hc),(9,V oA out.length w),(11,V vA (CC (out.take i)).length vc),(12,J (i:Int)),(72,V m.rA (Ec ds ins pa).rts.length m.rc),(73,J (i:Int))] λE6=>?_;obtain⟨gr,fr,hA,a5,z0⟩:=(rows K6).rts.all (by omega);obtain⟨A1,c1,hr,hx⟩:=z0 i e he;rw[hA];refine Aw (g:=gr) (off:=fr) (cap:=m.rc) (sz:=6) (k:=i) (len:=(Ec ds ins pa).rts.length) (some 74) (by omega) Tryz.underlying31 ?_;refine Bd 50 gr (fr+i*6) _ (some 75) hr ?_;refine An kq [MC q4 A ds.length c,N2 q5 m (Ec ds ins pa),N (U u6) (Dg e A1 c1) 50] K6 [(2,0),(1,0)] λu7 K7=>?_;generalize (U u6)=b1 at K7 ⊢;have r2:HV u7 vA (CC (out.take i)):=K7.H.rowsF (f:=BD) (λ_=>rfl) (K7.ix 13) (K7.at 13 rfl);have t1:=K7.H.slOk (K7.ix 13) (K7.at 13 rfl);have a1:=TJ (rows K7) hV i e he r2 s2 t1.1 t1.2 O.vals;refine BL a1 λen u8 hh=>?_;obtain⟨rfl,b8⟩:=hh;refine⟨_,rfl,?_⟩;have K8:=K7.below b8;obtain⟨n3,k0,v0,j0,b0,i0⟩:=O;have f5:e.2.2.2.2.2.length<=4096:=((Rr hV).2.2 i e he).len;generalize (Bh (Ec ds ins pa) (CC (out.take i)) e.2.2.2.2.2)=q at k0 v0 j0 b0 i0 ⊢;obtain⟨⟨v1,v2,v3⟩,qs⟩:=q;dsimp only at k0 v0 j0 b0 i0 ⊢;subst k0;refine Bg 16 ko [MC q4 A ds.length c,N2 q5 m (Ec ds ins pa),N b1 (Dg e A1 c1) 50,N (U u8) (BD (v1,v2)) 47] K8 [(3,0)] λu9 K9=>?_;generalize (U u8)=b2 at K9 ⊢;refine Ap K9 [(9,2,5)] [] K9.G (λsp t=>by cases t) λv4 v5 m2=>?_;refine AC WW m2 [] λt4 l2=>?_;refine AH (cond (cond (!((0:Int)==0)) true (decide ((qs:Int)<1))) true (decide ((e.2.2.2.2.2.length:Int)<(qs:Int)))) (λh=>?_) (λ_=>?_)
  ·rw[decide_eq_false (show ¬(qs:Int)<1 by omega),decide_eq_false (show ¬(e.2.2.2.2.2.length:Int)<(qs:Int) by omega)]at h
   cases h
  refine Ao Aa WV l2 [] λn4 l1=>?_;refine AX [(5,Z q5),(7,V m.nA ins.length m.nc),(8,V m.hA pa.length m.hc),(9,V oA out.length w),(11,V vA (CC (out.take i)).length vc),(12,J (i:Int)),(13,Z b1),(14,Z b2),(99,V vA (CC (out.take i)).length vc),(100,V oA out.length w),(101,J (i:Int))] λu5=>?_;obtain⟨gO,fO,rfl,e5,x2⟩:=(g0 l1).all (by omega);refine Aw (g:=gO) (off:=fO) (cap:=w) (sz:=5) (k:=i) (len:=out.length) (some 102) c0 Tryz.underlying42 ?_;refine Ao Od WU l1 [] λr1 i1=>?_;have a2:=g0 i1;obtain⟨p,s,a3,z2,l0⟩:=a2.all (by omega);obtain⟨rfl,rfl⟩:p=gO/\s=fO:=by simpa using a3.symm
  refine Bd 47 p (s+i*5+1) (BD o.2.1) (some 104) (mD (l0 i o ho) λj u hu=>?_) ?_
  ·match j,hu with
   | 0,hu=>exact hu
   | 1,hu=>exact hu
  have d0:∀ {u:World} {M:List Ax} {vA:Option Addr} {vc:Nat} {l:List (Int×Int)},Wk w0 u M (XW w0 b ns w4 m (Ec ds ins pa) x1 x3++[Gf m.nA m.nc ins,y1,y2,y3,GE (some ⟨p,s,none⟩) w out,CP vA vc l]) []->p<(U u)/\u.rangeAt p (s+i*5) (EY o):=λ{u M vA vc l} K=>by
   obtain⟨g2,f2,h2,h3,h4⟩:=(g0 K).all (by omega);obtain⟨rfl,rfl⟩:p=g2/\s=f2:=by simpa using h2
   exact⟨h3,h4 i o ho⟩
  refine Bn BH WT [MC q4 A ds.length c,N2 q5 m (Ec ds ins pa),N b1 (Dg e A1 c1) 50,N b2 (BD (v1,v2)) 47,N (U r1) (BD o.2.1) 47] i1 [] λk4 e0=>?_;generalize (U r1)=b3 at e0 ⊢;refine CD e0.H (e0.ix 13) (e0.at 13 rfl) o.2.1 (BD o.2.1) rfl b3 (e0.ent 4 rfl) (Cr WT) (by kernel_rfl) (.tmp 99) (.tmp 105) 45 (by kernel_rfl) (by kernel_rfl) (by kernel_rfl) (by decide) (by kernel_rfl) (by kernel_rfl) rfl rfl (by omega) λa0 y q2 Hn c2=>?_;have i2:Wk w0 q2 [MC q4 A ds.length c,N2 q5 m (Ec ds ins pa),N b1 (Dg e A1 c1) 50,N b2 (BD (v1,v2)) 47,N b3 (BD o.2.1) 47] (XW w0 b ns w4 m (Ec ds ins pa) x1 x3++[Gf m.nA m.nc ins,y1,y2,y3,GE (some ⟨p,s,none⟩) w out,CP a0 y (CC (out.take i)++[o.2.1])]) []:=e0.put 13 (by simp) c2 Hn;have t2:CC (out.take i)++[o.2.1]=CC (out.take (i+1)):=by unfold CC;rw[take_add_one,ho];simp
  rw[t2]at i2 ⊢;clear Hn c2 K1 K2 K3 K4 K6 K7 K8 K9 m2 l2 l1 i1 e0;refine AC Ql i2 [(2,1)] λe4 e2=>?_;refine AH (!(e.2.1)) (λcp=>?_) (λcp=>?_)
  ·obtain⟨p1,p2⟩:=b0 (by simpa using cp);refine AX [(5,Z q5),(7,V m.nA ins.length m.nc),(8,V m.hA pa.length m.hc),(9,V (some ⟨p,s,none⟩) out.length w),(11,V a0 (CC (out.take (i+1))).length y),(12,J (i:Int)),(13,Z b1),(14,Z b2)] λm3=>?_;refine Al 20 km e2 [] λo2 p0=>?_;refine Ap p0 (mem:=[⟨p,s+i*5,EY o,54,false⟩,N b2 (BD (v1,v2)) 47]) [(4,0,4),(11,0,1),(12,1,0)] [⟨2,[(110,V (some ⟨p,s,none⟩) out.length w),(111,J (i:Int))],.pointer (some ⟨p,s+i*5,none⟩),true⟩,⟨9,[(117,V (some ⟨p,s,none⟩) out.length w),(118,J (i:Int))],.pointer (some ⟨p,s+i*5,none⟩),(!(!(o.2.2.2==0)))&&true⟩,⟨13,[(121,D (BD o.2.1)),(122,D (BD (v1,v2)))],I (!(o.2.1.1==v1&&o.2.1.2==v2)),(!(!(o.2.2.2==0)))&&true⟩]
    (λx hx=>by
     simp only[mem_cons,not_mem_nil,or_false]at hx;rcases hx with rfl | rfl
     ·exact d0 p0
     ·exact p0.ent 3 rfl
     ) (λsp t=>?_) λn2 t5 t0=>?_
   ·simp only[mem_cons,not_mem_nil,or_false]at t;rcases t with rfl | rfl | rfl
    ·exact BR λ_ E u _=>BJ (sz:=5) (cap:=w) 42 (.tmp 110) (.tmp 111) c0 Tryz.underlying42
    ·exact BR λ_ E u _=>BJ (sz:=5) (cap:=w) 42 (.tmp 117) (.tmp 118) c0 Tryz.underlying42
    exact BR λ_ E u _=>DS (k:=.neq) (T:=47) (a:=D (BD o.2.1)) (b:=D (BD (v1,v2))) (Lf u _ _ _ _)
   refine AC AAw t0 [] λo1 f1=>?_;refine AH (cond (!(o.2.2.2==0)) true (!(o.2.1.1==v1&&o.2.1.2==v2))) (λh=>by rw[p1,p2]at h;simp at h) (λ_=>?_);refine AC (Ab Nh) f1 [] λuz Kz=>?_;refine AX [(5,Z q5),(7,V m.nA ins.length m.nc),(8,V m.hA pa.length m.hc),(9,V (some ⟨p,s,none⟩) out.length w),(11,V a0 (CC (out.take (i+1))).length y),(12,J (IntKind.i64.wrap ((i:Int)+1)))] λEz=>?_;rw[Bs i (by omega)];refine m0 _ _ ⟨i+1,a0,y,Ez,c0,rfl,Kz.pk [0,1] [0,1,2,3,4,5,6,7,8,9,10,11,12,13]⟩ ?_;show out.length-AP (J ((i+1:Nat):Int))<out.length-AP (J (i:Int));simp only[AP];omega
  obtain⟨g1,g2,g3,g4,⟨g5,g6⟩,g7,g8,g9⟩:=i0 (by simpa using cp);refine AX [(5,Z q5),(7,V m.nA ins.length m.nc),(8,V m.hA pa.length m.hc),(9,V (some ⟨p,s,none⟩) out.length w),(11,V a0 (CC (out.take (i+1))).length y),(12,J (i:Int)),(13,Z b1),(14,Z b2)] λm3=>?_;refine Ao Aa WS e2 [] λo2 p0=>?_;refine Aw (g:=p) (off:=s) (cap:=w) (sz:=5) (k:=i) (len:=out.length) (some 128) c0 Tryz.underlying42 ?_;refine Ao Od kj p0 [] λn2 t0=>?_;refine EF 3 p (s+i*5+4) (J o.2.2.2) (some 130) ((d0 t0).2 4 _ rfl) ?_;refine AC ki t0 [] λo1 f1=>?_;have hN:=Pf o.2.2.2 100 o1 (by omega) (by omega) (by decide) (by decide);rw[g7]at hN;refine AW f1 (args:=[J o.2.2.2,J 100]) hN λn1 l3=>?_;refine Bg 23 kh [MC q4 A ds.length c,N2 q5 m (Ec ds ins pa),N b1 (Dg e A1 c1) 50,N b2 (BD (v1,v2)) 47,N b3 (BD o.2.1) 47,N (U n1) (BD o.2.1) 47] l3 [(5,0)] λc4 r0=>?_;generalize (U n1)=b4 at r0 ⊢;have hD:∀u,Calls Tryz.prog 13 ([D (BD o.2.1),D [J e.2.2.2.1,J e.2.2.2.2.1]]:List Value).toArray u λen w'=>en=.returned (CY (D1 (o.2.1.1*e.2.2.2.2.1) (o.2.1.2*e.2.2.2.1)))/\Below (U u) u w':=λu=>qU o.2.1.1 o.2.1.2 e.2.2.2.1 e.2.2.2.2.1 u g2 g3 (by omega);generalize D1 (o.2.1.1*e.2.2.2.2.1) (o.2.1.2*e.2.2.2.1)=Q at g8 hD;refine aw r0 (mem:=[⟨p,s+i*5,EY o,54,false⟩,N b1 (Dg e A1 c1) 50]) 12 10 [0,1,2,3,4,5,6,7,8,9,10] 11 47 [J 0,J 0] [(4,0,1),(6,1,3)] [⟨2,[(135,V (some ⟨p,s,none⟩) out.length w),(136,J (i:Int))],.pointer (some ⟨p,s+i*5,none⟩),true⟩,⟨7,[(139,D (BD o.2.1)),(141,D [J e.2.2.2.1,J e.2.2.2.2.1])],CY Q,true⟩] [(12,6,0),(13,0,0)] (λb5=>[MC q4 A ds.length c,N2 q5 m (Ec ds ins pa),N b1 (Dg e A1 c1) 50,N b2 (BD (v1,v2)) 47,N b3 (BD o.2.1) 47,N b4 (BD o.2.1) 47,N b5 [J Q.1,J Q.2.1] 47])
   (λx hx=>by
    simp only[mem_cons,not_mem_nil,or_false]at hx;rcases hx with rfl | rfl
    ·exact d0 r0
    ·exact r0.ent 2 rfl
    ) (λv hv sp t=>?_) λb5 z a4 i3=>?_
  ·simp only[mem_cons,not_mem_nil,or_false]at t;rcases t with rfl | rfl
   ·exact BR λ_ E u _=>BJ (sz:=5) (cap:=w) 42 (.tmp 135) (.tmp 136) c0 Tryz.underlying42
   exact AU 13 [.tmp 139,.tmp 141] _ (λ_=>by kernel_rfl) λ_ u hu=>AR hu (hD u)
  refine Al 24 kg i3 [] λz3 e1=>?_;have hS:∀u,Calls Tryz.prog 14 ([D (BD o.2.1),D (BD (v1,v2))]:List Value).toArray u λen w'=>en=.returned (CY (D1 (o.2.1.1*v2-v1*o.2.1.2) (o.2.1.2*v2)))/\Below (U u) u w':=λu=>qT o.2.1.1 o.2.1.2 v1 v2 u g2 g1;replace g9:=g9 _ rfl;generalize D1 (o.2.1.1*v2-v1*o.2.1.2) (o.2.1.2*v2)=S at g9 hS;refine aw e1 (mem:=[⟨p,s+i*5,EY o,54,false⟩,N b2 (BD (v1,v2)) 47]) 11 9 [0,1,2,3,4,5,6,7,8,9] 10 47 [J 0,J 0] [(4,0,1),(5,1,0)] [⟨2,[(146,V (some ⟨p,s,none⟩) out.length w),(147,J (i:Int))],.pointer (some ⟨p,s+i*5,none⟩),true⟩,⟨6,[(150,D (BD o.2.1)),(151,D (BD (v1,v2)))],CY S,true⟩] [(11,7,0),(12,0,0)] (λb6=>[MC q4 A ds.length c,N2 q5 m (Ec ds ins pa),N b1 (Dg e A1 c1) 50,N b2 (BD (v1,v2)) 47,N b3 (BD o.2.1) 47,N b4 (BD o.2.1) 47,N b5 [J Q.1,J Q.2.1] 47,N b6 [J S.1,J S.2.1] 47])
   (λx hx=>by
    simp only[mem_cons,not_mem_nil,or_false]at hx;rcases hx with rfl | rfl
    ·exact d0 e1
    ·exact e1.ent 3 rfl
    ) (λv hv sp t=>?_) λb6 z w3 f3=>?_
  ·simp only[mem_cons,not_mem_nil,or_false]at t;rcases t with rfl | rfl
   ·exact BR λ_ E u _=>BJ (sz:=5) (cap:=w) 42 (.tmp 146) (.tmp 147) c0 Tryz.underlying42
   exact AU 14 [.tmp 150,.tmp 151] _ (λ_=>by kernel_rfl) λ_ u hu=>AR hu (hS u)
  refine Al 25 kf f3 [] λt3 q0=>?_;refine AX [(5,Z q5),(7,V m.nA ins.length m.nc),(8,V m.hA pa.length m.hc),(9,V (some ⟨p,s,none⟩) out.length w),(11,V a0 (CC (out.take (i+1))).length y),(12,J (i:Int)),(13,Z b1),(17,Z b4),(18,J 0),(19,Z b5),(20,J Q.2.2),(21,Z b6),(22,J S.2.2)] λk5=>?_;refine Ap q0 (mem:=[⟨p,s+i*5,EY o,54,false⟩,N b4 (BD o.2.1) 47,N b5 [J Q.1,J Q.2.1] 47]) [(3,1,0),(8,0,1),(16,2,1)] [⟨6,[(159,V (some ⟨p,s,none⟩) out.length w),(160,J (i:Int))],.pointer (some ⟨p,s+i*5,none⟩),(!(!((0:Int)==0)))&&true⟩,⟨9,[(158,D (BD o.2.1)),(163,D (BD o.2.1))],I (!(o.2.1.1==o.2.1.1&&o.2.1.2==o.2.1.2)),(!(!((0:Int)==0)))&&true⟩]
   (λx hx=>by
    simp only[mem_cons,not_mem_nil,or_false]at hx;rcases hx with rfl | rfl | rfl
    ·exact d0 q0
    ·exact q0.ent 5 rfl
    ·exact q0.ent 6 rfl
    ) (λsp t=>?_) λr3 h5 e3=>?_
  ·simp only[mem_cons,not_mem_nil,or_false]at t;rcases t with rfl | rfl
   ·exact BR λ_ E u _=>BJ (sz:=5) (cap:=w) 42 (.tmp 159) (.tmp 160) c0 Tryz.underlying42
   exact BR λ_ E u _=>DS (k:=.neq) (T:=47) (a:=D (BD o.2.1)) (b:=D (BD o.2.1)) (Lf u _ _ _ _)
  refine AC ke e3 [] λp3 c3=>?_;refine AH (cond (cond (!((0:Int)==0)) true (!(o.2.1.1==o.2.1.1&&o.2.1.2==o.2.1.2))) true (cond (Q.2.2==0) (!(Q.2.1==1)) false)) (λh=>?_) (λ_=>?_)
  ·exfalso;rw[show(!(o.2.1.1==o.2.1.1&&o.2.1.2==o.2.1.2))=false by simp]at h
   cases hz:Q.2.2==0
   ·rw[hz]at h;cases h
   rw[hz,g8 (by simpa using hz)]at h;cases h
  have fin:∀(a:Int) (u:World) (E:Nat->Value),(S.2.2=0->AV a S.2.1=true/\a*e.2.2.2.2.1<e.2.2.2.1*S.2.1)->Wk w0 u [MC q4 A ds.length c,N2 q5 m (Ec ds ins pa),N b1 (Dg e A1 c1) 50,N b2 (BD (v1,v2)) 47,N b3 (BD o.2.1) 47,N b4 (BD o.2.1) 47,N b5 [J Q.1,J Q.2.1] 47,N b6 [J a,J S.2.1] 47] (XW w0 b ns w4 m (Ec ds ins pa) x1 x3++[Gf m.nA m.nc ins,y1,y2,y3,GE (some ⟨p,s,none⟩) w out,CP a0 y (CC (out.take (i+1)))]) []->At Tryz.prog 3 R Qk (Fr 200 (BN E [(5,Z q5),(7,V m.nA ins.length m.nc),(8,V m.hA pa.length m.hc),(9,V (some ⟨p,s,none⟩) out.length w),(11,V a0 (CC (out.take (i+1))).length y),(12,J (i:Int)),(13,Z b1),(21,Z b6),(22,J S.2.2)])) u:=λa u E s1 K=>by
   refine Ap K (mem:=[N b6 [J a,J S.2.1] 47,N b1 (Dg e A1 c1) 50]) [(3,0,0),(5,1,3)] [⟨6,[(185,D [J a,J S.2.1]),(187,D [J e.2.2.2.1,J e.2.2.2.2.1])],J (cond (decide (a*e.2.2.2.2.1<e.2.2.2.1*S.2.1)) (-1) (cond (decide (e.2.2.2.1*S.2.1<a*e.2.2.2.2.1)) 1 0)),(S.2.2==0)&&true⟩]
    (λx hx=>by
     simp only[mem_cons,not_mem_nil,or_false]at hx;rcases hx with rfl | rfl
     ·exact K.ent 7 rfl
     ·exact K.ent 2 rfl
     ) (λsp t=>?_) λu2 E2 K2=>?_
   ·rw[mem_singleton.1 t];exact AU 15 [.tmp 185,.tmp 187] _ (λ_=>by kernel_rfl) λhc u hu=>AR hu (qV a S.2.1 e.2.2.2.1 e.2.2.2.2.1 u (s1 (by simpa using hc)).1 g3)
   refine AC AAv K2 [] λu3 K3=>?_;refine AH (cond (S.2.2==0) (decide (0<=cond (decide (a*e.2.2.2.2.1<e.2.2.2.1*S.2.1)) (-1) (cond (decide (e.2.2.2.1*S.2.1<a*e.2.2.2.2.1)) 1 (0:Int)))) false) (λh=>?_) (λ_=>?_)
   ·exfalso;obtain⟨h1,h2⟩:=Hb h;rw[decide_eq_true (s1 (by simpa using h1)).2]at h2
    cases h2
   refine AC (Ab Nh) K3 [] λuz Kz=>?_;refine AX [(5,Z q5),(7,V m.nA ins.length m.nc),(8,V m.hA pa.length m.hc),(9,V (some ⟨p,s,none⟩) out.length w),(11,V a0 (CC (out.take (i+1))).length y),(12,J (IntKind.i64.wrap ((i:Int)+1)))] λEz=>?_;rw[Bs i (by omega)];refine m0 _ _ ⟨i+1,a0,y,Ez,c0,rfl,Kz.pk [0,1] [0,1,2,3,4,5,6,7,8,9,10,11,12,13]⟩ ?_;show out.length-AP (J ((i+1:Nat):Int))<out.length-AP (J (i:Int));simp only[AP];omega
  refine AC kb c3 [(7,0)] λo3 d2=>?_;refine AH (decide (S.1<0)) (λcs=>?_) (λcs=>?_)
  ·refine Bg 29 Qk [MC q4 A ds.length c,N2 q5 m (Ec ds ins pa),N b1 (Dg e A1 c1) 50,N b2 (BD (v1,v2)) 47,N b3 (BD o.2.1) 47,N b4 (BD o.2.1) 47,N b5 [J Q.1,J Q.2.1] 47,N b6 [J (IntKind.i64.wrap (0-S.1)),J S.2.1] 47] d2 [(7,0),(7,0)] λx0 d1=>?_;refine AX [(5,Z q5),(7,V m.nA ins.length m.nc),(8,V m.hA pa.length m.hc),(9,V (some ⟨p,s,none⟩) out.length w),(11,V a0 (CC (out.take (i+1))).length y),(12,J (i:Int)),(13,Z b1),(21,Z b6),(22,J S.2.2)] λm1=>?_;refine fin (IntKind.i64.wrap (0-S.1)) x0 m1 (λh0=>?_) d1;obtain⟨k1,k2,k3⟩:=g9 h0;have hb:=Bt k1;rw[IntWalk.i64_in (0-S.1) (by omega),Int.zero_sub];refine⟨LZ hb.1 hb.2.1 (by omega) (by omega) (by rw[Int.natAbs_neg];exact H1 k1),?_⟩;rw[Int.neg_mul];omega
  refine Al 29 Qk d2 [] λx0 d1=>?_;refine AX [(5,Z q5),(7,V m.nA ins.length m.nc),(8,V m.hA pa.length m.hc),(9,V (some ⟨p,s,none⟩) out.length w),(11,V a0 (CC (out.take (i+1))).length y),(12,J (i:Int)),(13,Z b1),(21,Z b6),(22,J S.2.2)] λm1=>?_;exact fin S.1 x0 m1 (λh0=>⟨(g9 h0).1,(g9 h0).2.1⟩) d1
 have z4:i=out.length:=by
  by_cases h:i<out.length
  ·exfalso;rw[decide_eq_true (show(i:Int)<(out.length:Int) by omega),decide_eq_true (show(i:Int)<((Ec ds ins pa).rts.length:Int) by omega)]at c5
   cases c5
  omega
 refine Al 31 kZ K4 [] λu6 K6=>?_;refine Ap K6 [(3,1,3)] [⟨7,[],I true,((out.length:Int)==((Ec ds ins pa).rts.length:Int))&&true⟩] K6.G (λsp t=>?_) λu7 E7 K7=>?_
 ·rw[mem_singleton.1 t];exact AU 7 [] [] (λ_=>by kernel_rfl) λ_ u hu=>AR hu (PZ u)
 refine AC AAu K7 [] λu8 K8=>?_;refine AN K8 (0,0) (I (cond ((out.length:Int)==((Ec ds ins pa).rts.length:Int)) true false)) ?_;rw[show cond ((out.length:Int)==((Ec ds ins pa).rts.length:Int)) true false=true by rw[w1];simp];exact hR _ _ _ K8
theorem TE {d:EA}:∀(l:List DY) (vs:List (Int×Int)) (os:List F2),(Gj d l vs os).2≠0->(Gj d l vs os).1=[]
 | [],vs,os,h=>by rw[Gj]at h;exact absurd rfl h
 | e::tl,vs,os,h=>by
  rw[Gj]at h ⊢;have key:∀(a c:Bool) (x y:Int) (q:List F2×Int),(q.2≠0->q.1=[])->(cond a ([],x) (cond c ([],y) q)).2≠0->(cond a ([],x) (cond c ([],y) q)).1=[]:=λa c x y q b f=>by
   cases a
   ·cases c
    ·exact b f
    rfl
   rfl
  exact key _ _ _ _ _ (TE tl _ _) h
theorem mc {d:EA} (h:(ES d).2≠0):(ES d).1=[]:=by
 unfold ES at h ⊢
 cases hc:!(Cc d.ins d.scs d.pas d.rts)
 ·rw[hc]at h;exact TE _ _ _ h
 rfl
theorem Hz.more2 {w:World} {b a:Nat} {v:Value} {ns:List Int} (h:Hz w b v ns) (hb:b<=a):Hz w a v ns:=by obtain⟨A,c,rfl,f,h2,d⟩:=h;exact⟨A,c,rfl,f,h2,λhn=>let ⟨g,off,e,hg,hc⟩:=d hn;⟨g,off,e,by omega,hc⟩⟩
theorem ma {ds:List Df} (hok:∀d∈ds,IZ 3 false d):∀d∈ds,d.ents.length<=3:=λd hd=>by
 cases hok d hd with
 | ins _ hd=>
  simp only[Fa,mem_cons,not_mem_nil,or_false]at hd;rcases hd with rfl | rfl | rfl | rfl | rfl<;>exact Nat.zero_le _
 | sc nm t frm es h hf he=>exact he.len
 | rule i frm x n hi hf hn hx=>exact Nat.zero_le _
 | pay i x mode q hi h0 h6 hq hx=>exact Nat.zero_le _
theorem oP (vi:Value) (ns:List Int) (w:World) (hi:Hz w w.heap.size vi ns) :
  Calls Tryz.prog 3 #[vi] w λe w'=>e=.returned (I true)/\Below w.heap.size w w':=by
 obtain⟨tA,tc,rfl,f1,e1,d1⟩:=id hi;have hI:Hz w w.heap.size (V tA ns.length tc) ns:=hi;refine AS (fn:=Tryz.f3) (c:=ae) (n:=200) ?_;refine AC uT (Wk.start w) [] λw1 x=>?_;refine BL (Yd _ ns w1 ((hI.keep λg hg=>x.B.block g hg).more2 x.B.size)) λe w2 j=>?_;obtain⟨rfl,D2,v0,b2⟩:=j;refine⟨_,rfl,?_⟩;have B2:=x.B.trans (b2.mono x.B.size);have c0:=x.B.size
 try dsimp only[U]at *
 generalize w1.heap.size=b at *
 refine AC uS (Wk.start w2) [] λw3 K3=>?_;have D3:=D2.below K3.B;refine BL (args:=[Z b,J (3:Nat),I false]) (AIK b ns 3 false (by decide) (by decide) _ D3) λe w4 j=>?_;obtain⟨A,c,ds,rfl,f,D4,j0⟩:=j.made;refine⟨_,rfl,?_⟩;obtain⟨w0,t,K4⟩:=Wk.tape D4;have hw:=K4.B;have B4:Below w.heap.size w w4:=(B2.trans (K3.B.mono B2.size)).trans (j0.below c0 (Nat.le_trans B2.size K3.B.size));have fin:∀(u:World) (M:List Ax) (L:List Th),Wk w0 u M (BV w0 b ns::CI b w4::L) []->(Ending.returned (I true)=.returned (I true)/\Below w.heap.size w u):=λu M L K=>⟨rfl,B4.trans ((K.out t hw).2.below c0 B4.size)⟩;clear x K3 D2 D3 D4 B2 b2;refine An uR [MC w4.heap.size A ds.length c] K4 [(0,0),(0,0)] λw5 K5=>?_;generalize w4.heap.size=q4 at K5 ⊢;have hC:=PL Cj A ds c 20464 w5 (f.rows w5 (K5.out t hw).2) (Nat.le_trans f.len (by decide)) (by decide) f.lim f.cap (λd hd=>Nat.le_trans (ma f.ok d hd) (by decide)) f.ex f.nE;refine BL hC λe w6 j=>?_;clear hC;obtain⟨iA,ic,sA,sc,x1,pA,pc,rA,rc,x3,rfl,q1,q3,b6,H6⟩:=j;refine⟨_,rfl,?_⟩;rw[show x1.length=(CB Cj ds 20464).2.1.length by rw[<-q1,length_map],show x3.length=(CB Cj ds 20464).2.2.2.1.length by rw[<-q3,length_map]];have K6:=K5.join b6 H6;have d0:=mb f.ok f.full f.len;generalize herr:(CB Cj ds 20464).2.2.2.2=v at d0 ⊢;refine An eE [MC q4 A ds.length c,N w6.heap.size [V iA (CB Cj ds 20464).1.length ic,V sA (CB Cj ds 20464).2.1.length sc,V pA (CB Cj ds 20464).2.2.1.length pc,V rA (CB Cj ds 20464).2.2.2.1.length rc] 33] K6 [(1,0)] λw7 K7=>?_;generalize w6.heap.size=q5 at K7 ⊢;refine AH (!(v==0)) (λr=>?_) (λr=>?_)
 ·obtain rfl:v=3:=by
   rcases d0 with rfl | h
   ·cases r
   exact h
  refine Al 5 uQ K7 [] λu8 K8=>?_;refine Ap K8 [] [⟨3,[],I true,((3:Int)==3)&&true⟩] K8.G (λsp p=>?_) λu9 E9 K9=>?_
  ·rw[mem_singleton.1 p];exact AU 7 [] [] (λ_=>by kernel_rfl) λ_ u hu=>AR hu (PZ u)
  refine AC AE8 K9 [] λz k=>?_;refine AN k (0,0) (I true) ?_;exact fin _ _ _ k
 obtain rfl:v=0:=by simpa using r
 refine AC uP K7 [] λu8 K8=>?_;refine BL (gZ b ns u8 (K8.tapeOk t 0 rfl)) λe u9 j=>?_;obtain⟨nA,nc,ins,rfl,il,_,Z9,T9,b9⟩:=j;refine⟨_,rfl,?_⟩;have K9:=K8.tickJ t 0 rfl T9 b9 Z9;refine AC uO K9 [] λz k=>?_;refine BL (qY b ns z (k.tapeOk t 0 rfl)) λe c1 j=>?_;obtain⟨hA,hc,pa,L',rfl,pl,pe,l3,m0,a0,p0,l0⟩:=j;obtain⟨y1,y2,y3,rfl⟩:∃y1 y2 y3,L'=[y1,y2,y3]:=match L',l3 with
  | [a,b,c],_=>⟨a,b,c,rfl⟩
 refine⟨_,rfl,?_⟩;have r0:=k.tickJ t 0 rfl p0 l0 m0;refine AC uN r0 [(1,0)] λy o=>?_;have b0:=mZ (ds:=ds) (ins:=ins) (pa:=pa) (m:=⟨iA,ic,sA,sc,pA,pc,rA,rc,nA,nc,hA,hc⟩) f.ok f.len q1 q3 (L:=[]) (o.own0 [2,3,4,5,6,7] rfl (by decide)) ((o.own0 [8] rfl (by decide):AY w0.heap.size y [Gf nA nc ins]).rowsF (λ_=>rfl) 0 rfl) (a0 _ y (o.own0 [9,10,11] rfl (by decide))) il pl pe;have hR:=Pt b0.1 b0.2;refine BL hR λe b1 j=>?_;clear hR;obtain⟨oA,oc,rfl,k0,t0⟩:=j;refine⟨_,rfl,?_⟩;have s:=o.join k0 t0;have i:=mc (d:=Ec ds ins pa);generalize hq:ES (Ec ds ins pa)=q at i s ⊢;obtain⟨out,v⟩:=q;dsimp only at i s ⊢;refine AC eD s [] λa1 g0=>?_;refine AH (!(v==0)) (λr=>?_) (λr=>?_)
 ·obtain rfl:out=[]:=i (by simpa using r);refine Al 9 ku g0 [] λi0 l=>?_;refine Ap l [] [⟨4,[],I true,((0:Int)==0)&&true⟩] l.G (λsp p=>?_) λz0 g1 q0=>?_
  ·rw[mem_singleton.1 p];exact AU 7 [] [] (λ_=>by kernel_rfl) λ_ u hu=>AR hu (PZ u)
  refine AC AAx q0 [] λx0 e0=>?_;refine AN e0 (0,0) (I true) ?_;exact fin _ _ _ e0
 obtain rfl:v=0:=by simpa using r
 refine AC Nh g0 [] λi0 l=>?_;refine AX [(5,Z q5),(7,V nA ins.length nc),(8,V hA pa.length hc),(9,V oA out.length oc),(11,V none 0 0),(12,J ((0:Nat):Int))] λh1=>?_;exact hY (m:=⟨iA,ic,sA,sc,pA,pc,rA,rc,nA,nc,hA,hc⟩) f.ok f.len q1 q3 a0 il pl pe hq l fin
end
end Go.Proofs.YtkpemkkbjfbmaaaGreat

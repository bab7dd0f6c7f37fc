/- Contracts of functions, part 41. -/
import Derived.Test.YtkjbdagicjbjjaaGreatTs38
import Derived.Test.YtkjbdagicjbjjaaGreatTs40
import Derived.Test.YtkjbdagicjbjjaaGreatTs27
set_option linter.all false
namespace Go.Proofs.YtkjbdagicjbjjaaGreat
noncomputable section
open Go.RowKit
set_option maxRecDepth 100000
set_option maxHeartbeats 1000000
theorem mL {h:Nat}:∀ {ks:List Ex},(∀ k∈ks,nE k≤4 ^ h)→Fd ks≤ks.length * 4 ^ h
 | [],_=>Nat.zero_le _
 | k :: ks,hk=>by
  rw [Fd,List.length_cons,Nat.succ_mul]
  have b:=hk k (by simp)
  have h2:=mL fun q a=>hk q (List.mem_cons_of_mem k a)
  omega
theorem S5:∀ {ks:List Ex},(∀ k∈ks,Dm k)→Is ks
 | [],_=>by unfold Is; trivial
 | k :: ks,hk=>by
  unfold Is
  exact ⟨hk k (by simp),S5 fun q a=>hk q (List.mem_cons_of_mem k a)⟩
theorem OW {x:Int} (b:0≤x) (a:x≤100):EX x:=⟨by omega,by omega⟩
def gY (h:Nat) (x:Ex):Prop:=Dm x∧nE x≤4 ^ h∧Fy h x
theorem F0 {h:Nat} {op num den mu hu du c m:Int} {nm:List UInt8} {ks:List Ex} (ho:0≤op∧op≤100) (hc:0≤c∧c≤100) (hn:0≤num∧num≤100) (hd:0≤den∧den≤100) (hl:nm.length≤100) (f:ks.length≤3) (h2:op=12∨op=13→∃ a b,ks=[a,b]) (g:op=18→∃ a b c,ks=[a,b,c]) (d:∀ k∈ks,gY h k):gY (h + 1) (.mk op num den mu hu du nm c m ks):=by
 refine ⟨?_,?_,⟨OW ho.1 ho.2,(by show nm.length≤_; omega),OW hc.1 hc.2,Mi,Mi⟩,(by show ks.length≤_; omega),h2,g,OW hn.1 hn.2,OW hd.1 hd.2,fun k e=>(d k e).2.2⟩
 ·unfold Dm
  exact ⟨by omega,by omega,S5 fun k e=>(d k e).1⟩
 rw [nE]
 have l:=mL (h:=h) fun k e=>(d k e).2.1
 have j:ks.length * 4 ^ h≤3 * 4 ^ h:=Nat.mul_le_mul_right _ f
 have i:0 < 4 ^ h:=Nat.pow_pos (by decide)
 rw [Nat.pow_add]
 omega
theorem ZN:∀ q∈Hm,(0≤q.1∧q.1≤100)∧0≤q.2∧q.2≤100:=by decide
theorem Y2:∀ q∈PL,(0≤q.1∧q.1≤100)∧0≤q.2∧q.2≤100:=by decide
theorem pw:∀ a b c d e f g k:Bool,∀ q∈(cond a ([102] :: cond e [[114,51]] []) (cond b (cond f [[114,50]] []++cond g [[97]] []) (cond c [[104]] (cond d (cond k [[114,49]] []) ([103] :: cond g [[114,52]] [])))):List (List UInt8)),q.length≤100:=by decide
theorem mK {t:Ty} {n:Int} {nm:List UInt8} (h:nm∈Ke t n):nm.length≤100:=pw _ _ _ _ _ _ _ _ nm h
theorem OX {n:Int}:∀ {h:Nat} {t:Ty} {x:Ex},CT n h t x→gY h x:=by
 intro h t x hx
 have z:(0:Int)≤0∧(0:Int)≤100:=⟨by decide,by decide⟩
 have l0:([]:List UInt8).length≤100:=by decide
 have d:∀ {op:Int} {P:Prop},op≠12∧op≠13→(op=12∨op=13→P):=fun f h2=>by rcases h2 with h2 | h2 <;> omega
 have b:∀ {op:Int} {P:Prop},op≠18→(op=18→P):=fun f h2=>absurd h2 f
 have e:∀ {h:Nat},∀ k∈([]:List Ex),gY h k:=fun k a=>by cases a
 induction hx with
 | tru h c hc=>exact F0 (by decide) (by omega) z z l0 (by decide) (d (by decide)) (b (by decide)) e
 | name h t nm hm=>exact F0 (by decide) z z z (mK hm) (by decide) (d (by decide)) (b (by decide)) e
 | past h t nm op c ht hop f h3=>
  have hl:nm.length≤100:=by rcases ht with ⟨_,rfl⟩ | ⟨_,rfl⟩ <;> decide
  exact F0 (by omega) (by omega) z z hl (by decide) (d (by omega)) (b (by omega)) e
 | num h t q ht h5 hq=>exact F0 (by decide) z (ZN q hq).1 (ZN q hq).2 l0 (by decide) (d (by decide)) (b (by decide)) e
 | not h x hx ih=>exact F0 (by decide) z z z l0 (Nat.le_of_ble_eq_true rfl) (d (by decide)) (b (by decide)) fun k a=>by rw [List.mem_singleton.1 a]; exact ih
 | neg h t x ht hx ih=>exact F0 (by decide) z z z l0 (Nat.le_of_ble_eq_true rfl) (d (by decide)) (b (by decide)) fun k a=>by rw [List.mem_singleton.1 a]; exact ih
 | round h t x q m ht hq m0 m6 hx ih=>exact F0 (by decide) z (Y2 q hq).1 (Y2 q hq).2 l0 (Nat.le_of_ble_eq_true rfl) (d (by decide)) (b (by decide)) fun k a=>by rw [List.mem_singleton.1 a]; exact ih
 | scale h t nm x ht hx ih=>
  have hl:nm.length≤100:=by rcases ht with ⟨_,rfl⟩ | ⟨_,rfl⟩ <;> decide
  exact F0 (by decide) z z z hl (Nat.le_of_ble_eq_true rfl) (d (by decide)) (b (by decide)) fun k a=>by rw [List.mem_singleton.1 a]; exact ih
 | two h op t t1 t2 x y ht hx hy ih1 ih2=>
  have ho:5≤op∧op≤15:=by unfold MO at ht; omega
  exact F0 (by omega) z z z l0 (Nat.le_of_ble_eq_true rfl) (fun _=>⟨x,y,rfl⟩) (b (by omega)) fun k a=>by
   rcases List.mem_cons.1 a with rfl | a
   ·exact ih1
   rw [List.mem_singleton.1 a]; exact ih2
 | ite h t x y z' hx hy hz ih1 ih2 ih3=>
  exact F0 (by decide) z z z l0 (Nat.le_of_ble_eq_true rfl) (d (by decide)) (fun _=>⟨x,y,z',rfl⟩) fun k a=>by
   rcases List.mem_cons.1 a with rfl | a
   ·exact ih1
   rcases List.mem_cons.1 a with rfl | a
   ·exact ih2
   rw [List.mem_singleton.1 a]; exact ih3
structure AGM (d:Df):Prop where
 lim:Fc d
 nE:nE d.body≤1000000
 ev:Ac d=true→Fy 3 d.body∧d.name≠[104]
 frm:0≤d.frm∧d.frm≤30000
theorem vK:∀ (i:Nat),(Ng.getD i []).length≤100∧Ng.getD i []≠[104]
 | 0 | 1 | 2 | 3=>⟨by decide,by decide⟩
 | _ + 4=>⟨Nat.zero_le _,fun h=>absurd (show ([]:List UInt8)=[104] from h) (by decide)⟩
theorem vL:∀ (i:Nat),(RB.getD i []).length≤100∧RB.getD i []≠[104]
 | 0 | 1=>⟨by decide,by decide⟩
 | _ + 2=>⟨Nat.zero_le _,fun h=>absurd (show ([]:List UInt8)=[104] from h) (by decide)⟩
theorem KY {wl:Bool} {d:Df} (h:I3 3 wl d):AGM d:=by
 have b:Dm BM:=⟨Nat.zero_le _,Nat.zero_le _,trivial⟩
 cases h with
 | ins d hd=>
  simp only [Fm,List.mem_cons,List.not_mem_nil,or_false] at hd
  rcases hd with rfl | rfl | rfl | rfl | rfl <;> exact ⟨⟨b,by decide⟩,by decide,fun h=>absurd h (by decide),by decide,by decide⟩
 | sc nm t frm es h hf he=>
  have hl:nm.length≤100:=by rcases h with ⟨rfl,_⟩ | ⟨rfl,_⟩ <;> decide
  exact ⟨⟨b,by show nm.length≤_; omega⟩,by show nE BM≤_; decide,fun h=>(by cases h),by show 0≤frm; omega,by show frm≤30000; omega⟩
 | rule i frm x n hi hf hn hx=>
  have a:=OX hx
  exact ⟨⟨a.1,Nat.le_trans (vK i).1 (by decide)⟩,Nat.le_trans a.2.1 (by decide),fun _=>⟨a.2.2,(vK i).2⟩,by show 0≤frm; omega,by show frm≤30000; omega⟩
 | pay i x mode q hi h0 h6 hq hx=>
  have a:=OX hx
  exact ⟨⟨a.1,Nat.le_trans (vL i).1 (by decide)⟩,Nat.le_trans a.2.1 (by decide),fun _=>⟨a.2.2,(vL i).2⟩,by show (0:Int)≤20454; decide,by show (20454:Int)≤30000; decide⟩
structure JE (b:Nat) (w:World) (A:Option Addr) (c:Nat) (ds:List Df):Prop where
 rowsX:∃ rs,∀ u,CG b w u→EY CN u ds rs∧DH CN u 21 A rs
 cap:ds.length≤c
 len:ds.length≤30
 ok:∀ d∈ds,I3 3 false d
 full:SZ ds
theorem oF.made {b:Nat} {ns:List Int} {w w':World} {e:Ending} (h:oF b ns 3 false w e w'):∃ A c ds,e=.returned (ψ [η Af,τ A ds.length c])∧JE b w' A c ds∧Be b ns w'∧CG b w w':=by
 obtain ⟨A,c,ds,k,h2,j,i,g,f,d,a⟩:=h
 exact ⟨A,c,ds,k,⟨h2,j,i,g,f⟩,d,a⟩
section
variable {b:Nat} {w:World} {A:Option Addr} {c:Nat} {ds:List Df} (h:JE b w A c ds)
include h
theorem JE.rows:∀ u,CG b w u→rowsDf u A ds:=fun u hu=>by
 obtain ⟨rs,a⟩:=h.rowsX
 exact ⟨rs,a u hu⟩
theorem JE.lim:∀ d∈ds,Fc d:=fun d hd=>(KY (h.ok d hd)).lim
theorem JE.ex:∀ d∈ds,Dm d.body:=fun d hd=>(KY (h.ok d hd)).lim.1
theorem JE.nE:∀ d∈ds,nE d.body≤1000000:=fun d hd=>(KY (h.ok d hd)).nE
theorem JE.ev:∀ d∈ds,Ac d=true→Fy 3 d.body:=fun d hd hc=>((KY (h.ok d hd)).ev hc).1
theorem JE.nm:∀ d∈ds,Ac d=true→d.name≠[104]:=fun d hd hc=>((KY (h.ok d hd)).ev hc).2
theorem JE.frm:∀ d∈ds,0≤d.frm∧d.frm≤30000:=fun d hd=>(KY (h.ok d hd)).frm
end
def wo (s:Cq):Prop:=∀ u∈s.2,H3 u.1
def Kh (s s':Cq):Prop:=wo s→wo s'
theorem XG (F:Ao→Int×Int×Int) (p:Ao) (b:H3 p) (s:Cq):Kh s (Cu F p s).2:=by
 unfold Cu
 split
 ·exact fun h=>h
 cases !((F p).2.2 == 0)
 ·intro h q a
  rcases List.mem_append.1 a with a | a
  ·exact h q a
  rw [List.mem_singleton.1 a]; exact b
 exact fun h=>h
theorem XM (f:Ex→Cq→C0):∀ (ks:List Ex) (_:∀ k∈ks,∀ s,Dg s.1→Kh s (f k s).2) (_:∀ k∈ks,∀ s,kp s (f k s).2) (i:Nat) (a b:Int×Int) (s:Cq),Dg s.1→Kh s (Cy f ks i a b s).2.2.2
 | [],_,_,_,_,_,s,_=>fun h=>h
 | k :: r,hf,hk,i,a,b,s,hs=>by
  have e:=hf k (by simp) s hs
  unfold Cy
  cases !((f k s).1.2.2 == 0)
  ·exact fun h=>XM f r (fun d c=>hf d (by simp [c])) (fun d c=>hk d (by simp [c])) _ _ _ _ (hk k (by simp) s hs) (e h)
  exact e
theorem gl (f:Ex→Cq→C0) (x:Ex) (hf:∀ k∈x.ks,∀ s,Dg s.1→Kh s (f k s).2) (b:∀ k∈x.ks,∀ s,kp s (f k s).2) (s:Cq) (hs:Dg s.1):Kh s (CR f x s).2:=by
 unfold CR
 split
 ·rename_i k0 k1 r hx
  rw [hx] at hf b
  have a:=hf k0 (by simp) s hs
  have hr:=b k0 (by simp) s hs
  cases !((f k0 s).1.2.2 == 0)
  ·show Kh s (cond _ _ _:C0).2
   cases (x.op == 12 && ((f k0 s).1.1 == 0))
   ·show Kh s (cond _ _ _:C0).2
    cases (x.op == 13 && !((f k0 s).1.1 == 0))
    ·show Kh s (cond _ _ _:C0).2
     cases (x.op == 18 && ((f k0 s).1.1 == 0))
     ·exact fun h=>hf k1 (by simp) _ hr (a h)
     cases r with
     | nil=>exact fun h=>h
     | cons k2 r=>exact fun h=>hf k2 (by simp) _ hr (a h)
    exact a
   exact a
  exact a
 exact fun h=>h
theorem Pv (F:Ao→Int×Int×Int) (c:∀ p,vR (F p)):∀ (h:Nat) (x:Ex) (s:Cq),Fy h x→Dg s.1→Kh s (BH F h x s).2
 | 0,_,_,hx,_=>hx.elim
 | h + 1,x,s,hx,hs=>by
  obtain ⟨f,h2,m,l,j,i,g⟩:=hx
  unfold BH
  cases (x.op == 1)
  ·show Kh s (cond _ _ _:C0).2
   cases (x.op == 2)
   ·show Kh s (cond _ _ _:C0).2
    cases (x.op == 3 || (x.op == 20 || x.op == 21))
    ·show Kh s (cond _ _ _:C0).2
     cases (x.op == 18 || (x.op == 12 || x.op == 13))
     ·have hu:=XM (BH F h) x.ks (fun k d s hs=>Pv F c h k s (g k d) hs) (fun k _ s=>Gp F c h k s) 0 (0,0) (0,0) s hs
      have hv:=Ph (BH F h) x.ks (fun k _ s=>Gp F c h k s) (fun k d s hs=>My F c h k s (g k d) hs) 0 (0,0) (0,0) s hs (EV 0) (EV 0)
      show Kh s (match Cy (BH F h) x.ks 0 (0,0) (0,0) s with
       | (e,a,b,s')=>cond (!(e == 0)) ((0,0,e),s') (cond (x.op == 4) (Cu F (x.op,x.nm,0,a.1,a.2) s') (Cj x a.1 a.2 b.1 b.2,s'))).2
      generalize Cy (BH F h) x.ks 0 (0,0) (0,0) s=q at hu hv ⊢
      obtain ⟨e,a,b,s'⟩:=q
      show Kh s (cond _ _ _:C0).2
      cases !(e == 0)
      ·show Kh s (cond _ _ _:C0).2
       cases (x.op == 4)
       ·exact hu
       exact fun h=>XG F (x.op,x.nm,0,a.1,a.2) ⟨f.1,f.2.1,Mi,hv.1.1,hv.1.2⟩ s' (hu h)
      exact hu
     exact gl (BH F h) x (fun k d s hs=>Pv F c h k s (g k d) hs) (fun k _ s=>Gp F c h k s) s hs
    exact XG F _ ⟨f.1,f.2.1,f.2.2.1,Mi,Mi⟩ s
   exact fun h=>h
  exact fun h=>h
theorem qI (cl:Bool) (cm:List (Ao×Int×Int)) (hcm:Dg cm) (nm:List (List UInt8×Int×Int)) (sc:List (List UInt8×List Gd)) (pa:List Dk) (p:Ao):vR (Bm cl cm nm sc pa p):=by
 have h:=Pp cl cm hcm nm (sc.map fun q=>(q.1,(q.2,none,0))) pa p
 rw [SB,List.map_map] at h
 have e:sc.map ((fun q:List UInt8×Gy=>(q.1,q.2.1)) ∘ fun q=>(q.1,(q.2,none,0)))=sc:=(List.map_congr_left (g:=id) fun _ _=>rfl).trans (List.map_id sc)
 rwa [e] at h
theorem ft (F:Ao→Int×Int×Int) (b:∀ p,vR (F p)) (h:Nat) (d:Df) (hx:Fy h d.body) (hn:nE d.body≤1000000):(BJ F h d ([],[])).2.2.length≤10000000∧∀ u∈(BJ F h d ([],[])).2.2,H3 u.1:=by
 have c:=Pv F b h d.body ([],[]) hx (fun p a=>by cases a) (fun p a=>by cases a)
 have h2:=(HH F h d.body ([],[])).2
 have e:(BJ F h d ([],[])).2=(BH F h d.body ([],[])).2:=by
  unfold BJ
  cases !((BH F h d.body ([],[])).1.2.2 == 0)
  ·cases d.kind == 4 <;> rfl
  rfl
 rw [e]
 exact ⟨by simp at h2; omega,c⟩
theorem Nu {ds:List Df} {sc:List (List UInt8×List Gd)} {pa:List Dk} {h:Nat} {fnd:List (Nat×Bool)}:∀ (r:List Nat) (nm:List (List UInt8×Int×Int)) (a:List C4),(Dv ds sc pa h fnd r nm a).1.length≤a.length + r.length
 | [],_,_=>Nat.le_refl _
 | i :: r,nm,a=>by
  rw [Dv]
  cases !((AH fnd i).getD false)
  ·simp only [cond_false]
   cases !((BJ (Bm false [] nm sc pa) h (κ ds i) ([],[])).1.2.2 == 0)
   ·refine Nat.le_trans (Nu r _ _) ?_
    rw [List.length_append,List.length_singleton,List.length_cons]
    omega
   exact Nat.zero_le _
  refine Nat.le_trans (Nu r _ _) ?_
  rw [List.length_cons]
  omega
theorem mZ {n:List UInt8} {ds:List Df} {day:Int} {h:Nat} {ins:List Dl} {pa:List Dk} {nm:List UInt8} (hn:∀ d∈ds,nE d.body≤1000000):(CX n ds day h ins pa nm).1.length≤ds.length:=by
 unfold CX
 cases !(CJ n ds day == 0)
 ·simp only [cond_false]
  cases AH (Ap n ds day).2.1 nm with
  | none=>exact Nat.zero_le _
  | some r=>
   simp only
   cases !((Dn n ds day r.toNat).2 == 0)
   ·have a:=Nu (ds:=ds) (sc:=(Ap n ds day).2.2) (pa:=pa) (h:=h) (fnd:=(Dn n ds day r.toNat).1) (Ad n ds day).1 (Hi (Ap n ds day).1 ins []) []
    have h2:=(TF (n:=n) (p1:=day) hn).2
    simp only [List.length_nil,Nat.zero_add] at a
    exact Nat.le_trans a h2
   exact Nat.zero_le _
 exact Nat.zero_le _
theorem mY {n:List UInt8} {ds:List Df} {day:Int} {h:Nat} {ins:List Dl} {pa:List Dk} {nm:List UInt8} (hl:ds.length≤1000) (ht:∀ d∈ds,Fc d) (hn:∀ d∈ds,nE d.body≤1000000) (c:∀ d∈ds,Ac d=true→Fy h d.body) (l:(CX n ds day h ins pa nm).2=0):JH (CX n ds day h ins pa nm).1:=by
 obtain ⟨f,_,a⟩:=Pr l
 refine ⟨Nat.le_trans (mZ hn) hl,fun e he=>?_⟩
 obtain ⟨i,hi,b,k,rfl⟩:=a e he
 have hm:=DR (Ew _ (Gr.1 i hi))
 obtain ⟨j,g⟩:=ft (Bm false [] b (Ap n ds day).2.2 pa) (qI _ _ (fun p f=>by cases f) _ _ _) h _ (c _ hm (HJ i hi)) (hn _ hm)
 exact ⟨(ht _ hm).2,j,g⟩
def SD:Ex:=.mk 3 0 0 0 0 0 [103,114,97,100,101] 0 0 []
def qO:Ex:=.mk 4 0 0 0 0 0 [119,97,103,101] 0 0 [SD]
def Xi:Df:=⟨1,[103,114,97,100,101],false,0,0,0,0,[],BM,0,0,0⟩
def SF:Df:=⟨2,[119,97,103,101],false,0,0,0,0,[(1,15,1)],BM,0,0,0⟩
def Xj:Df:=⟨3,[98,97,115,101],false,0,0,0,0,[],qO,0,0,0⟩
def GL:List Df:=[Xi,SF,Xj]
def qE:List Dl:=[([103,114,97,100,101],2,1)]
def aY:DP:=((3,[103,114,97,100,101],0,0,0),2,1)
def MJ:DP:=((4,[119,97,103,101],0,2,1),15,1)
def Ju:C4:=([98,97,115,101],0,[aY,MJ],15,1)
theorem ABy:CX [109] GL 0 3 qE [] [98,97,115,101]=([Ju],0):=by kernel_rfl
theorem ABx:CX [109] GL 0 3 [] [] [103,114,97,100,101]=([],7):=by kernel_rfl
theorem ABw:IC [109] GL 0 3 [Ju]=[aY]:=by kernel_rfl
theorem ABv:Ha [109] GL 0 3 [Ju]=true:=by kernel_rfl
theorem HZ:∀ d∈GL,Fc d:=by
 intro d hd
 simp only [GL,List.mem_cons,List.not_mem_nil,or_false] at hd
 rcases hd with rfl | rfl | rfl <;> simp [Fc,Xi,SF,Xj,BM,SD,qO,Dm,Is]
theorem N8:∀ d∈GL,nE d.body≤1000000:=by
 intro d hd
 simp only [GL,List.mem_cons,List.not_mem_nil,or_false] at hd
 rcases hd with rfl | rfl | rfl <;> decide
theorem N9:∀ d∈GL,Ac d=true→Fy 3 d.body:=by
 intro d hd hc
 simp only [GL,List.mem_cons,List.not_mem_nil,or_false] at hd
 rcases hd with rfl | rfl | rfl
 ·cases hc
 ·cases hc
 exact (F0 (h:=2) (by decide) (by decide) (by decide) (by decide) (by decide) (by decide) (fun h=>absurd h (by decide)) (fun h=>absurd h (by decide)) fun k a=>by
  rw [List.mem_singleton.1 a]
  exact F0 (h:=1) (by decide) (by decide) (by decide) (by decide) (by decide) (by decide) (fun h=>absurd h (by decide)) (fun h=>absurd h (by decide)) fun k a=>(by cases a)).2.2
theorem Sg:JH [Ju]:=by
 refine ⟨by decide,fun e he=>?_⟩
 rw [List.mem_singleton.1 he]
 refine ⟨by decide,by decide,fun u hu=>?_⟩
 rcases List.mem_cons.1 hu with rfl | hu
 ·exact ⟨⟨by decide,by decide⟩,by decide,⟨by decide,by decide⟩,⟨by decide,by decide⟩,⟨by decide,by decide⟩⟩
 rw [List.mem_singleton.1 hu]
 exact ⟨⟨by decide,by decide⟩,by decide,⟨by decide,by decide⟩,⟨by decide,by decide⟩,⟨by decide,by decide⟩⟩
theorem LZ (w:World):rowsEx w none []:=⟨[],rfl,.inl rfl⟩
theorem oG {w:World} {b:Nat} (f:A7.good w (ι (b + 1) ([IX (1,15,1)].flatten) 101)) (e:A7.good w (ι (b + 3) ([AX SD none 0].flatten) 53)) (d:A7.good w (ι (b + 5) ([Bg Xi none 0 none 0,Bg SF (some ⟨b + 1,0,none⟩) 1 none 0,Bg Xj none 0 (some ⟨b + 3,0,none⟩) 1].flatten) 59)):rowsDf w (some ⟨b + 5,0,none⟩) GL:=by
 have c:Cs w (some ⟨b + 1,0,none⟩) [(1,15,1)]:=DJ (by simp) f
 have a:rowsEx w (some ⟨b + 3,0,none⟩) [SD]:=⟨[AX SD none 0],⟨_,_,rfl,Xa (LZ w),rfl⟩,DJ (by simp) e⟩
 exact ⟨[Bg Xi none 0 none 0,Bg SF (some ⟨b + 1,0,none⟩) 1 none 0,Bg Xj none 0 (some ⟨b + 3,0,none⟩) 1],⟨_,_,rfl,Je (.inl rfl) (LZ w),_,_,rfl,Je c (LZ w),_,_,rfl,Je (.inl rfl) a,rfl⟩,DJ (by simp) d⟩
attribute [local irreducible] BD BP AC AD AF Ar AZ AM Aw Bk C6 BV EE C5 BO At Fr
noncomputable def ZQ:Code:=Tryz.f28.body.getD .skip
def AB4:=ν [.code ZQ]
theorem MH (w:World):Calls Tryz.prog 28 ([]:List Value).toArray w fun e w'=>∃ g,e=.returned (ψ [η [109],χ g 3 3])∧Below (ε w) w w'∧rowsDf w' (θ g) GL:=by
 refine AS (fn:=Tryz.f28) (c:=ZQ) (n:=16) ?_
 refine Ah AB4 [ι (ε w) [η [109],τ (some ⟨ε w + 5,0,none⟩) 3 3] 27,ι (ε w + 1) ([IX (1,15,1)].flatten) 101,ι (ε w + 2) (Bg SF (some ⟨ε w + 1,0,none⟩) 1 none 0) 59,ι (ε w + 3) ([AX SD none 0].flatten) 53,ι (ε w + 4) (AX qO (some ⟨ε w + 3,0,none⟩) 1) 53,ι (ε w + 5) ([Bg Xi none 0 none 0,Bg SF (some ⟨ε w + 1,0,none⟩) 1 none 0,Bg Xj none 0 (some ⟨ε w + 3,0,none⟩) 1].flatten) 59] (Wk.start w) [(2,0),(4,0),(2,0),(4,0),(0,0)] fun b a=>?_
 exact AK a (0,0) (ψ [η [109],τ (some ⟨ε w + 5,0,none⟩) 3 3]) ⟨_,rfl,a.B,oG (a.ent 1 rfl) (a.ent 3 rfl) (a.ent 5 rfl)⟩
noncomputable def Zj:Code:=Tryz.f11.body.getD .skip
def rV:=ν [.code Zj]
def rU:=Ω rV
def rT:=Ω rU
def rS:=Al 3 (AC (AC rT))
def rR:=AI rS
def rQ:=Ψ rR
def bG:=Ω rQ
def bF:=AA (An (Ae) 90 (AC bG)) (AC bG)
def bE:=AA (An (GP 42) 90 (AC bF)) (AC bF)
def bD:=AA (An (Ei) 90 (AC (AC (AC bE)))) (AC (AC (AC bE)))
def Uv:=AA (An (Ae) 90 (AC bD)) (AC bD)
def jA:=AA (An (GP 3) 90 (AC Uv)) (AC Uv)
def i9:=Ω jA
def Uu:=Ω i9
def Ut:=AA (An (Ae) 90 (AC Uu)) (AC Uu)
def Us:=AA (An (GP 9) 90 (AC Ut)) (AC Ut)
def i8:=AA (An (Ei) 90 (AC Us)) (AC Us)
def xj:=Ω i8
theorem YP (w:World):(binOp .eql 94 (ψ (Ch MJ)) (ψ (Ch MJ))).run Tryz.prog w=.ok (ξ true) w:=by
 show (binOp .eql 94 (.agg #[δ 4,η [119,97,103,101],δ 0,δ 2,δ 1,δ 15,δ 1]) (.agg #[δ 4,η [119,97,103,101],δ 0,δ 2,δ 1,δ 15,δ 1])).run Tryz.prog w=_
 simp [go_sem]
theorem Wo (w:World):Calls Tryz.prog 11 ([]:List Value).toArray w fun e w'=>e=.returned (ξ true)∧Below (ε w) w w':=by
 refine AS (fn:=Tryz.f11) (c:=Zj) (n:=76) ?_
 refine AB rV (Wk.start w) [] fun w1 K1=>?_
 refine BA (MH w1) fun s w2 i=>?_
 obtain ⟨g,rfl,b2,hR⟩:=i
 refine ⟨_,rfl,?_⟩
 have q:=K1.B.trans (b2.mono K1.B.size)
 refine Ah rU [ι (ε w2) ([GW ([103,114,97,100,101],2,1)].flatten) 81] (Wk.start w2) [] fun w3 K3=>?_
 refine BA (Lk [109] (θ g) GL 3 0 3 (some ⟨ε w2,0,none⟩) qE 1 none [] 0 [98,97,115,101] w3 (hR.below K3.B) (by decide) (by decide) (by decide) HZ (fun d hd=>(HZ d hd).1) N8 N9 (DJ (by simp [qE]) (K3.ent 0 rfl)) (by decide) (by decide) ⟨[],trivial,.inl rfl⟩ (by decide) (by decide) (by decide)) fun s w4 i=>?_
 rw [ABy] at i
 obtain ⟨rA,z,sl,rfl,o,b4,H4⟩:=i
 have hl:sl.length=1:=by have:=congrArg List.length o; simpa using this
 obtain ⟨x,rfl⟩:=List.length_eq_one_iff.1 hl
 obtain ⟨e,A1,c1⟩:=x
 obtain rfl:e=Ju:=(List.cons.inj o).1
 refine ⟨_,rfl,?_⟩
 have K4:=K3.join b4 H4
 refine AB rT K4 [] fun w5 K5=>?_
 refine BA (MH w5) fun s w6 i=>?_
 obtain ⟨g2,rfl,b6,h1⟩:=i
 refine ⟨_,rfl,?_⟩
 have K6:=K5.below b6
 refine BA (Lk [109] (θ g2) GL 3 0 3 none [] 0 none [] 0 [103,114,97,100,101] w6 h1 (by decide) (by decide) (by decide) HZ (fun d hd=>(HZ d hd).1) N8 N9 (.inl rfl) (by decide) (by decide) ⟨[],trivial,.inl rfl⟩ (by decide) (by decide) (by decide)) fun s w7 i=>?_
 rw [ABx] at i
 obtain ⟨rB,rd,sl,rfl,o,b7,_⟩:=i
 obtain rfl:sl=[]:=List.map_eq_nil_iff.1 o
 refine ⟨_,rfl,?_⟩
 have j:=K6.below b7
 have a0:=j.H.rowsSt (j.ix 0) (j.ix 1) (j.at 0 rfl) (j.at 1 rfl)
 obtain ⟨l,m,rfl,b0,z0⟩:=(j.H.rowsF (f:=Dp) (fun _=>rfl) (j.ix 0) (j.at 0 rfl)).all (by simp)
 obtain ⟨gu,fu,rfl,a1,w0⟩:=(Th.rowsUse ((j.H.all (j.ix 1) _ (j.at 1 rfl)) (Ge (Ju,A1,c1)) (by simp))).all (Nat.succ_pos 1)
 have r:=fun u (hu:Below (ε w7) w7 u)=>Ag (z0 0 _ rfl) b0 hu
 have v0:=fun u (hu:Below (ε w7) w7 u)=>Ag (w0 1 MJ rfl) a1 hu
 refine As 3 rS (Wk.start w7) [] fun w8 K8=>?_
 refine Av K8 (mem:=[⟨l,m + 0 * 5,(Dp (Ju,some ⟨gu,fu,none⟩,c1)),44,false⟩]) [(11,0,2)] [⟨9,[(27,τ (some ⟨l,m,none⟩) 1 z)],.pointer (some ⟨l,m + 0 * 5,none⟩),true⟩] (fun e' e1=>by rw [List.mem_singleton.1 e1]; exact ⟨Nat.lt_of_lt_of_le b0 K8.B.size,r _ K8.B⟩) (fun sp x0=>?_) fun w9 E9 K9=>?_
 ·rw [List.mem_singleton.1 x0]
  exact BQ fun _ E y hy=>CE (g:=l) (off:=m) (sz:=5) (k:=0) (len:=1) (cap:=z) 29 (.tmp 27) (.const (δ 0)) (by decide) Tryz.underlying29
 refine AB rR K9 [] fun m2 t1=>?_
 refine AG false (fun h=>by cases h) (fun _=>?_)
 refine AB rQ t1 [] fun t0 s1=>?_
 refine BA (MH t0) fun s s0 i=>?_
 obtain ⟨g3,rfl,m1,g1⟩:=i
 refine ⟨_,rfl,?_⟩
 refine AB bG (Wk.start s0) [] fun r0 j0=>?_
 have e0:=(s1.below m1).below j0.B
 refine BA (mX [109] (θ g3) GL 3 0 3 (some ⟨l,m,none⟩) [Ju] z r0 (g1.below j0.B) (by decide) (by decide) (by decide) HZ (fun d hd=>(HZ d hd).1) N8 N9 (a0.below e0.B) Sg) fun s l2 i=>?_
 rw [ABw] at i
 obtain ⟨rF,rG,rfl,l1,x1⟩:=i
 refine ⟨_,rfl,?_⟩
 have r1:=e0.join l1 x1
 refine Ak Ae bF r1 [] fun k2 q1=>?_
 refine Ay (g:=l) (off:=m) (cap:=z) (sz:=5) (k:=0) (len:=1) (some 42) (by decide) Tryz.underlying29 ?_
 refine Ak (GP 42) bE q1 [] fun i2 t=>?_
 refine Dz 42 l (m + 0 * 5 + 2) (τ (some ⟨gu,fu,none⟩) 2 c1) (some 44) (r _ t.B 2 _ rfl) ?_
 refine Ay (g:=gu) (off:=fu) (cap:=c1) (sz:=7) (k:=1) (len:=2) (some 45) (by decide) Tryz.underlying42 ?_
 refine BN 94 gu (fu + 1 * 7) (Ch MJ) (some 46) (v0 _ t.B) ?_
 refine Ak Ei bD t [] fun q0 p1=>?_
 refine DN (v:=ξ true) (DD (k:=.eql) (T:=94) (a:=ψ (Ch MJ)) (b:=ψ (Ch MJ)) (YP q0)) ?_
 refine Ak Ae Uv p1 [] fun h2 o1=>?_
 refine Ay (g:=l) (off:=m) (cap:=z) (sz:=5) (k:=0) (len:=1) (some 53) (by decide) Tryz.underlying29 ?_
 refine Ak (GP 3) jA o1 [] fun e2 d0=>?_
 refine Dz 3 l (m + 0 * 5 + 3) (δ 15) (some 56) (r _ d0.B 3 _ rfl) ?_
 refine AB i9 d0 [] fun p0 n1=>?_
 refine BA (MH p0) fun s m0 i=>?_
 obtain ⟨g4,rfl,k1,f1⟩:=i
 refine ⟨_,rfl,?_⟩
 refine AB Uu (Wk.start m0) [] fun l0 i0=>?_
 have c0:=(n1.below k1).below i0.B
 refine BA (MI [109] (θ g4) GL 3 0 3 (some ⟨l,m,none⟩) [Ju] z l0 (f1.below i0.B) (by decide) (by decide) (by decide) HZ (fun d hd=>(HZ d hd).1) N8 N9 (a0.below c0.B) Sg) fun s k0 i=>?_
 rw [ABv] at i
 obtain ⟨rfl,i1⟩:=i
 refine ⟨_,rfl,?_⟩
 have p:=c0.below i1
 obtain ⟨gf,ff,rfl,b1,d1⟩:=(p.H.rowsUse (p.ix 0) (p.at 0 rfl)).all (by decide)
 refine Ak Ae Ut (Wk.start k0) [] fun d2 v1=>?_
 refine Ay (g:=gf) (off:=ff) (cap:=rG) (sz:=7) (k:=0) (len:=1) (some 71) (by decide) Tryz.underlying42 ?_
 refine Ak (GP 9) Us v1 [] fun c2 h0=>?_
 refine Dz 9 gf (ff + 0 * 7 + 1) (η [103,114,97,100,101]) (some 73) (Ag (d1 0 aY rfl) b1 h0.B 1 _ rfl) ?_
 refine Ak Ei i8 h0 [] fun a2 u1=>?_
 refine DN (Hl (a:=[103,114,97,100,101]) (b:=[103,114,97,100,101]) (T:=9) (T':=9) (x:=.tmp 73) (y:=.const (η [103,114,97,100,101]))) ?_
 refine AB xj u1 [] fun z1 g0=>?_
 exact AK g0 (0,0) (ξ true) ⟨rfl,q.trans ((j.B.trans (((p.below g0.B).B).mono j.B.size)).mono q.size)⟩
end
end Go.Proofs.YtkjbdagicjbjjaaGreat
namespace Go.Proofs.YtkjbdagicjbjjaaGreat
open Go.RowKit
set_option maxRecDepth 100000
def M8 (t:Ty):I2:=(t.1,t.2.1,t.2.2.1,t.2.2.2,0)
structure Tab (n:Int) (ns ss ps:List Df):Prop where
 nam:∀ t∈EG,∀ nm∈Ke t n,CK ns nm=M8 t
 scw:CK ss [119]=M8 BU
 scs:CK ss [115]=M8 BC
 pag:CK ps [103,114,111,115,115]=M8 Cb
 pat:CK ps [116,105,109,101]=M8 De
theorem UZ {op:Int} {t c b:Ty} (h:MO op t c b) (a:t∈EG):c∈EG∧b∈EG:=by
 have e:BC∈EG∧Cb∈EG∧De∈EG∧BU∈EG∧DG∈EG:=by decide
 obtain ⟨f,d,a3,a4,a5⟩:=e
 unfold MO at h
 rcases h with ⟨_,_,rfl,h⟩ | ⟨_,_,rfl,rfl⟩ | ⟨_,_,rfl,rfl⟩ | ⟨_,_,rfl,rfl⟩ | ⟨_,_,rfl,rfl⟩ | ⟨_,_,rfl,rfl⟩ | ⟨_,_,rfl,h⟩ | ⟨_,_,rfl,rfl⟩
 ·exact ⟨NO h,NO h⟩
 ·exact ⟨a5,a5⟩
 ·exact ⟨a,a⟩
 ·exact ⟨a,f⟩
 ·exact ⟨a3,a4⟩
 ·exact ⟨d,a3⟩
 ·exact ⟨NO h,NO h⟩
 exact ⟨d,a4⟩
theorem pz {t:Ty} (h:t∈EG):t=BC∨t=Cb∨t=De∨t=BU∨t=DG:=by simpa [EG] using h
theorem ABK {t:Ty} (h:t∈Lq):t=BC∨t=Cb∨t=De∨t=BU:=by simpa [Lq] using h
theorem R5 {t:Ty} (h:t∈EG) (a:t.1=false):t=BC∨t=Cb∨t=De∨t=BU:=by
 rcases pz h with h | h | h | h | h
 ·exact .inl h
 ·exact .inr (.inl h)
 ·exact .inr (.inr (.inl h))
 ·exact .inr (.inr (.inr h))
 subst h; cases a
theorem ABB {ns ss e:List Df} {op:Int} {t c b:Ty} (x y:Ex) (h:MO op t c b) (d:t∈EG):DM ns ss e (.mk op 0 0 0 0 0 [] 0 0 [x,y]) c b (false,0,0,0)=M8 t:=by
 unfold MO at h
 rcases h with ⟨ho,rfl,rfl,h⟩ | ⟨ho,rfl,rfl,rfl⟩ | ⟨ho,a,rfl,rfl⟩ | ⟨ho,a,rfl,rfl⟩ | ⟨rfl,rfl,rfl,rfl⟩ | ⟨rfl,rfl,rfl,rfl⟩ | ⟨rfl,rfl,rfl,h⟩ | ⟨rfl,rfl,rfl,rfl⟩
 ·rcases ho with rfl | rfl | rfl <;> rcases ABK h with rfl | rfl | rfl | rfl <;> kernel_rfl
 ·rcases ho with rfl | rfl | rfl <;> kernel_rfl
 ·rcases ho with rfl | rfl | rfl | rfl <;> rcases R5 d a with rfl | rfl | rfl | rfl <;> kernel_rfl
 ·rcases ho with rfl | rfl <;> rcases R5 d a with rfl | rfl | rfl | rfl <;> kernel_rfl
 ·kernel_rfl
 ·kernel_rfl
 ·rcases ABK h with rfl | rfl | rfl | rfl <;> kernel_rfl
 kernel_rfl
theorem iQ {n:Int} {ns ss a:List Df} (T:Tab n ns ss a) {h:Nat} {t:Ty} {x:Ex} (hx:CT n h t x):t∈EG→ED ns ss a x=M8 t:=by
 have a5:DG∈EG∧BC∈EG:=by decide
 induction hx with
 | tru h c hc=>intro _; kernel_rfl
 | name h t nm hm=>intro b; exact T.nam t b nm hm
 | past h t nm op c ht hop h1 h3=>
  intro _
  rcases hop with rfl | rfl <;> rcases ht with ⟨rfl,rfl⟩ | ⟨rfl,rfl⟩
  ·exact T.pag
  ·exact T.pat
  ·exact T.pag
  exact T.pat
 | num h t q ht b hq=>intro _; rcases R5 b ht with rfl | rfl | rfl | rfl <;> kernel_rfl
 | not h x hx ih=>
  intro _
  show JT (ED ns ss a x) ns ss a _=_
  rw [ih a5.1]
  kernel_rfl
 | neg h t x ht hx ih=>
  intro b
  show JT (ED ns ss a x) ns ss a _=_
  rw [ih b]
  rcases R5 b ht with rfl | rfl | rfl | rfl <;> kernel_rfl
 | round h t x q m ht hq m0 m6 hx ih=>
  intro b
  show JT (ED ns ss a x) ns ss a _=_
  rw [ih b]
  rcases R5 b ht with rfl | rfl | rfl | rfl <;> kernel_rfl
 | scale h t nm x ht hx ih=>
  intro _
  show JT (ED ns ss a x) ns ss a (.mk 4 0 0 0 0 0 nm 0 0 [x])=_
  rw [ih a5.2]
  show cond ((CK ss nm).2.2.2.2 == 0) (Ab (CK ss nm).1 (CK ss nm).2.1 (CK ss nm).2.2.1 (CK ss nm).2.2.2.1 (Da false 0 0 0 0 0 0)) (Ab (CK ss nm).1 (CK ss nm).2.1 (CK ss nm).2.2.1 (CK ss nm).2.2.2.1 (CK ss nm).2.2.2.2)=_
  rcases ht with ⟨rfl,rfl⟩ | ⟨rfl,rfl⟩
  ·rw [T.scw]; rfl
  rw [T.scs]; rfl
 | two h op t t1 t2 x y ht hx hy ih1 ih2=>
  intro b
  obtain ⟨e,d⟩:=UZ ht b
  show Lp (ED ns ss a x) (ED ns ss a y) ns ss a (.mk op 0 0 0 0 0 [] 0 0 [x,y])=_
  rw [ih1 e,ih2 d]
  exact ABB x y ht b
 | ite h t x y z hx hy hz ih1 ih2 ih3=>
  intro b
  show KM (ED ns ss a x) (ED ns ss a y) (ED ns ss a z) ns ss a _=_
  rw [ih1 a5.1,ih2 b,ih3 b]
  rcases pz b with rfl | rfl | rfl | rfl | rfl <;> kernel_rfl
theorem Gz {op num den mu hu du:Int} {nm:List UInt8} {cnt md:Int} {kids:List Ex} {H:Int} (d:1≤H) (c:(kids.length:Int)=DB op) (hf:CO op num den mu hu du nm cnt md=true) (a:∀ k∈kids,Fu k (H - 1)=true):Fu (.mk op num den mu hu du nm cnt md kids) H=true:=by
 have hs:∀ l:List Ex,(∀ k∈l,Fu k (H - 1)=true)→GM l (H - 1)=true:=by
  intro l
  induction l with
  | nil=>intro _; rfl
  | cons k l ih=>
   intro h
   rw [GM,h k (by simp)]
   exact ih fun q b=>h q (by simp [b])
 rw [Fu,decide_eq_false (by omega:¬ H < 1),c,hf,hs kids a,beq_self_eq_true]
 rfl
theorem vj {n:Int} {t:Ty} {nm:List UInt8} (h:nm∈Ke t n):CO 3 0 0 0 0 0 nm 0 0=true:=by
 have j:∀ a b c d e f g k:Bool,(cond a ([102] :: cond e [[114,51]] []) (cond b (cond f [[114,50]] []++cond g [[97]] []) (cond c [[104]] (cond d (cond k [[114,49]] []) ([103] :: cond g [[114,52]] [])))):List (List UInt8)).all (fun q=>[[102],[114,51],[114,50],[97],[104],[114,49],[103],[114,52]].contains q)=true:=by decide
 have h2:=List.all_eq_true.1 (j _ _ _ _ _ _ _ _) nm h
 have i:([[102],[114,51],[114,50],[97],[104],[114,49],[103],[114,52]]:List (List UInt8)).all (fun q=>CO 3 0 0 0 0 0 q 0 0)=true:=by kernel_rfl
 exact List.all_eq_true.1 i nm (List.contains_iff_mem.1 h2)
theorem wn:Lq.all (fun t=>Hm.all fun q=>CO 1 q.1 q.2 t.2.1 t.2.2.1 t.2.2.2 [] 0 0)=true:=by kernel_rfl
theorem wm:Lq.all (fun t=>PL.all fun q=>[0,1,2,3,4,5,6].all fun m=>CO 19 q.1 q.2 t.2.1 t.2.2.1 t.2.2.2 [] 0 m)=true:=by kernel_rfl
theorem wk:[5,6,7,8,9,10,11,12,13,14,15].all (fun op=>CO op 0 0 0 0 0 [] 0 0)=true:=by kernel_rfl
theorem ABM:[5,6,7,8,9,10,11,12,13,14,15].all (fun op=>DB op == 2)=true:=by kernel_rfl
theorem iS {t:Ty} (h:t∈EG) (a:t.1=false):t∈Lq:=by
 rcases R5 h a with rfl | rfl | rfl | rfl <;> decide
theorem PH {n:Int} {h:Nat} {t:Ty} {x:Ex} (hx:CT n h t x):∀ (H:Int),(h:Int)≤H→t∈EG→Fu x H=true:=by
 have a5:DG∈EG∧BC∈EG:=by decide
 have e:∀ (H:Int),∀ k∈([]:List Ex),Fu k (H - 1)=true:=fun H k a=>by cases a
 have one:∀ (H:Int) (x:Ex),Fu x (H - 1)=true→∀ k∈[x],Fu k (H - 1)=true:=fun H x hx k a=>by rw [List.mem_singleton.1 a]; exact hx
 induction hx with
 | tru h c hc=>intro H d _; exact Gz (by omega) rfl (by rcases hc with rfl | rfl <;> kernel_rfl) (e H)
 | name h t nm hm=>intro H d _; exact Gz (by omega) rfl (vj hm) (e H)
 | past h t nm op c ht hop h1 h3=>
  intro H d _
  have hc:c=1∨c=2∨c=3:=by omega
  refine Gz (by omega) ?_ ?_ (e H)
  ·rcases hop with rfl | rfl <;> rfl
  rcases hop with rfl | rfl <;> rcases ht with ⟨_,rfl⟩ | ⟨_,rfl⟩ <;> rcases hc with rfl | rfl | rfl <;> kernel_rfl
 | num h t q ht b hq=>
  intro H d _
  exact Gz (by omega) rfl (List.all_eq_true.1 (List.all_eq_true.1 wn t (iS b ht)) q hq) (e H)
 | not h x hx ih=>intro H d _; exact Gz (by omega) rfl (by kernel_rfl) (one H x (ih _ (by omega) a5.1))
 | neg h t x ht hx ih=>intro H d b; exact Gz (by omega) rfl (by kernel_rfl) (one H x (ih _ (by omega) b))
 | round h t x q m ht hq m0 m6 hx ih=>
  intro H d b
  have hm:m∈([0,1,2,3,4,5,6]:List Int):=by
   have:m=0∨m=1∨m=2∨m=3∨m=4∨m=5∨m=6:=by omega
   simpa using this
  exact Gz (by omega) rfl (List.all_eq_true.1 (List.all_eq_true.1 (List.all_eq_true.1 wm t (iS b ht)) q hq) m hm) (one H x (ih _ (by omega) b))
 | scale h t nm x ht hx ih=>intro H d _; exact Gz (by omega) rfl (by rcases ht with ⟨_,rfl⟩ | ⟨_,rfl⟩ <;> kernel_rfl) (one H x (ih _ (by omega) a5.2))
 | two h op t t1 t2 x y ht hx hy ih1 ih2=>
  intro H d b
  obtain ⟨g,f⟩:=UZ ht b
  have ho:op∈([5,6,7,8,9,10,11,12,13,14,15]:List Int):=by
   have:op=5∨op=6∨op=7∨op=8∨op=9∨op=10∨op=11∨op=12∨op=13∨op=14∨op=15:=by unfold MO at ht; omega
   simpa using this
  refine Gz (by omega) ?_ (List.all_eq_true.1 wk op ho) fun k a=>?_
  ·exact (eq_of_beq (List.all_eq_true.1 ABM op ho)).symm
  rcases List.mem_cons.1 a with rfl | a
  ·exact ih1 _ (by omega) g
  rw [List.mem_singleton.1 a]; exact ih2 _ (by omega) f
 | ite h t x y z hx hy hz ih1 ih2 ih3=>
  intro H d b
  refine Gz (by omega) rfl (by kernel_rfl) fun k a=>?_
  rcases List.mem_cons.1 a with rfl | a
  ·exact ih1 _ (by omega) a5.1
  rcases List.mem_cons.1 a with rfl | a
  ·exact ih2 _ (by omega) b
  rw [List.mem_singleton.1 a]; exact ih3 _ (by omega) b
end Go.Proofs.YtkjbdagicjbjjaaGreat

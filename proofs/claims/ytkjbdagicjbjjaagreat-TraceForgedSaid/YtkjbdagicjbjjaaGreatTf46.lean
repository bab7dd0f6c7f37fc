/-
  Part 46 of a proof: contracts of functions.
-/
import Derived.Test.YtkjbdagicjbjjaaGreatTf37
import Derived.Test.YtkjbdagicjbjjaaGreatTf40
import Derived.Test.YtkjbdagicjbjjaaGreatTf45
set_option linter.all false
namespace Go.Proofs.YtkjbdagicjbjjaaGreat
open Go.RowKit
set_option maxRecDepth 100000
theorem jy {h:Nat}:∀ {ks:List Ex},(∀ k∈ks,nE k≤4 ^ h)→FH ks≤ks.length * 4 ^ h
 | [],_=>Nat.zero_le _
 | k :: ks,hk=>by
  rw [FH,List.length_cons,Nat.succ_mul]
  have b:=hk k (by simp)
  have h2:=jy fun q a=>hk q (List.mem_cons_of_mem k a)
  omega
theorem Re:∀ {ks:List Ex},(∀ k∈ks,DR k)→IK ks
 | [],_=>by unfold IK; trivial
 | k :: ks,hk=>by
  unfold IK
  exact ⟨hk k (by simp),Re fun q a=>hk q (List.mem_cons_of_mem k a)⟩
theorem NP {x:Int} (b:0≤x) (a:x≤100):EG x:=⟨by omega,by omega⟩
def eA (h:Nat) (x:Ex):Prop:=DR x∧nE x≤4 ^ h∧GL h x
theorem FY {h:Nat} {op num den mu hu du c m:Int} {nm:List UInt8} {ks:List Ex} (ho:0≤op∧op≤100) (hc:0≤c∧c≤100) (hn:0≤num∧num≤100) (hd:0≤den∧den≤100) (hl:nm.length≤100) (f:ks.length≤3) (h2:op=12∨op=13→∃ a b,ks=[a,b]) (g:op=18→∃ a b c,ks=[a,b,c]) (d:∀ k∈ks,eA h k):eA (h + 1) (.mk op num den mu hu du nm c m ks):=by
 refine ⟨?_,?_,⟨NP ho.1 ho.2,(by show nm.length≤_; omega),NP hc.1 hc.2,Lr,Lr⟩,(by show ks.length≤_; omega),h2,g,NP hn.1 hn.2,NP hd.1 hd.2,fun k e=>(d k e).2.2⟩
 ·unfold DR
  exact ⟨by omega,by omega,Re fun k e=>(d k e).1⟩
 ·rw [nE]
  have l:=jy (h:=h) fun k e=>(d k e).2.1
  have j:ks.length * 4 ^ h≤3 * 4 ^ h:=Nat.mul_le_mul_right _ f
  have i:0 < 4 ^ h:=Nat.pow_pos (by decide)
  rw [Nat.pow_add]
  omega
theorem Xg:∀ q∈Ho,(0≤q.1∧q.1≤100)∧0≤q.2∧q.2≤100:=by decide
theorem XS:∀ q∈Qe,(0≤q.1∧q.1≤100)∧0≤q.2∧q.2≤100:=by decide
theorem nH:∀ a b c d e f g k:Bool,∀ q∈(cond a ([102] :: cond e [[114,51]] []) (cond b (cond f [[114,50]] []++cond g [[97]] []) (cond c [[104]] (cond d (cond k [[114,49]] []) ([103] :: cond g [[114,52]] [])))):List (List UInt8)),q.length≤100:=by decide
theorem jx {t:Ty} {n:Int} {nm:List UInt8} (h:nm∈Pp t n):nm.length≤100:=nH _ _ _ _ _ _ _ _ nm h
theorem XY {n:Int}:∀ {h:Nat} {t:Ty} {x:Ex},DK n h t x→eA h x:=by
 intro h t x hx
 have z:(0:Int)≤0∧(0:Int)≤100:=⟨by decide,by decide⟩
 have l0:([]:List UInt8).length≤100:=by decide
 have d:∀ {op:Int} {P:Prop},op≠12∧op≠13→(op=12∨op=13→P):=fun f h2=>by rcases h2 with h2 | h2 <;> omega
 have b:∀ {op:Int} {P:Prop},op≠18→(op=18→P):=fun f h2=>absurd h2 f
 have e:∀ {h:Nat},∀ k∈([]:List Ex),eA h k:=fun k a=>by cases a
 induction hx with
 | tru h c hc=>exact FY (by decide) (by omega) z z l0 (by decide) (d (by decide)) (b (by decide)) e
 | name h t nm hm=>exact FY (by decide) z z z (jx hm) (by decide) (d (by decide)) (b (by decide)) e
 | past h t nm op c ht hop f h3=>
  have hl:nm.length≤100:=by rcases ht with ⟨_,rfl⟩ | ⟨_,rfl⟩ <;> decide
  exact FY (by omega) (by omega) z z hl (by decide) (d (by omega)) (b (by omega)) e
 | num h t q ht h5 hq=>exact FY (by decide) z (Xg q hq).1 (Xg q hq).2 l0 (by decide) (d (by decide)) (b (by decide)) e
 | not h x hx ih=>exact FY (by decide) z z z l0 (Nat.le_of_ble_eq_true rfl) (d (by decide)) (b (by decide)) fun k a=>by rw [List.mem_singleton.1 a]; exact ih
 | neg h t x ht hx ih=>exact FY (by decide) z z z l0 (Nat.le_of_ble_eq_true rfl) (d (by decide)) (b (by decide)) fun k a=>by rw [List.mem_singleton.1 a]; exact ih
 | round h t x q m ht hq m0 m6 hx ih=>exact FY (by decide) z (XS q hq).1 (XS q hq).2 l0 (Nat.le_of_ble_eq_true rfl) (d (by decide)) (b (by decide)) fun k a=>by rw [List.mem_singleton.1 a]; exact ih
 | scale h t nm x ht hx ih=>
  have hl:nm.length≤100:=by rcases ht with ⟨_,rfl⟩ | ⟨_,rfl⟩ <;> decide
  exact FY (by decide) z z z hl (Nat.le_of_ble_eq_true rfl) (d (by decide)) (b (by decide)) fun k a=>by rw [List.mem_singleton.1 a]; exact ih
 | two h op t t1 t2 x y ht hx hy ih1 ih2=>
  have ho:5≤op∧op≤15:=by unfold tj at ht; omega
  exact FY (by omega) z z z l0 (Nat.le_of_ble_eq_true rfl) (fun _=>⟨x,y,rfl⟩) (b (by omega)) fun k a=>by
   rcases List.mem_cons.1 a with rfl | a
   ·exact ih1
   ·rw [List.mem_singleton.1 a]; exact ih2
 | ite h t x y z' hx hy hz ih1 ih2 ih3=>
  exact FY (by decide) z z z l0 (Nat.le_of_ble_eq_true rfl) (d (by decide)) (fun _=>⟨x,y,z',rfl⟩) fun k a=>by
   rcases List.mem_cons.1 a with rfl | a
   ·exact ih1
   ·rcases List.mem_cons.1 a with rfl | a
    ·exact ih2
    ·rw [List.mem_singleton.1 a]; exact ih3
structure ADl (d:Df):Prop where
 lim:FU d
 nE:nE d.body≤1000000
 ev:Al d=true→GL 3 d.body∧d.name≠[104]
 frm:0≤d.frm∧d.frm≤30000
theorem sa:∀ (i:Nat),(Vf.getD i []).length≤100∧Vf.getD i []≠[104]
 | 0 | 1 | 2 | 3=>⟨by decide,by decide⟩
 | _ + 4=>⟨Nat.zero_le _,fun h=>absurd (show ([]:List UInt8)=[104] from h) (by decide)⟩
theorem sb:∀ (i:Nat),(Vg.getD i []).length≤100∧Vg.getD i []≠[104]
 | 0 | 1=>⟨by decide,by decide⟩
 | _ + 2=>⟨Nat.zero_le _,fun h=>absurd (show ([]:List UInt8)=[104] from h) (by decide)⟩
theorem LI {wl:Bool} {d:Df} (h:M5 3 wl d):ADl d:=by
 have b:DR BO:=⟨Nat.zero_le _,Nat.zero_le _,trivial⟩
 cases h with
 | ins d hd=>
  simp only [Qm,List.mem_cons,List.not_mem_nil,or_false] at hd
  rcases hd with rfl | rfl | rfl | rfl | rfl <;> exact ⟨⟨b,by decide⟩,by decide,fun h=>absurd h (by decide),by decide,by decide⟩
 | sc nm t frm es h hf he=>
  have hl:nm.length≤100:=by rcases h with ⟨rfl,_⟩ | ⟨rfl,_⟩ <;> decide
  exact ⟨⟨b,by show nm.length≤_; omega⟩,by show nE BO≤_; decide,fun h=>(by cases h),by show 0≤frm; omega,by show frm≤30000; omega⟩
 | rule i frm x n hi hf hn hx=>
  have a:=XY hx
  exact ⟨⟨a.1,Nat.le_trans (sa i).1 (by decide)⟩,Nat.le_trans a.2.1 (by decide),fun _=>⟨a.2.2,(sa i).2⟩,by show 0≤frm; omega,by show frm≤30000; omega⟩
 | pay i x mode q hi h0 h6 hq hx=>
  have a:=XY hx
  exact ⟨⟨a.1,Nat.le_trans (sb i).1 (by decide)⟩,Nat.le_trans a.2.1 (by decide),fun _=>⟨a.2.2,(sb i).2⟩,by show (0:Int)≤20454; decide,by show (20454:Int)≤30000; decide⟩
structure KG (b:Nat) (w:World) (A:Option Addr) (c:Nat) (ds:List Df):Prop where
 rows:∀ u,CE b w u→rowsDf u A ds
 cap:ds.length≤c
 len:ds.length≤30
 ok:∀ d∈ds,M5 3 false d
 full:zA ds
theorem lb.made {b:Nat} {ns:List Int} {w w':World} {e:Ending} (h:lb b ns 3 false w e w'):∃ A c ds,e=.returned (.agg ⟨[By A4,.slice A ds.length c]⟩)∧KG b w' A c ds∧BW b ns w'∧CE b w w':=by
 obtain ⟨A,c,ds,k,h2,j,i,g,f,d,a⟩:=h
 exact ⟨A,c,ds,k,⟨h2,j,i,g,f⟩,d,a⟩
section
variable {b:Nat} {w:World} {A:Option Addr} {c:Nat} {ds:List Df} (h:KG b w A c ds)
include h
theorem KG.lim:∀ d∈ds,FU d:=fun d hd=>(LI (h.ok d hd)).lim
theorem KG.ex:∀ d∈ds,DR d.body:=fun d hd=>(LI (h.ok d hd)).lim.1
theorem KG.nE:∀ d∈ds,nE d.body≤1000000:=fun d hd=>(LI (h.ok d hd)).nE
theorem KG.ev:∀ d∈ds,Al d=true→GL 3 d.body:=fun d hd hc=>((LI (h.ok d hd)).ev hc).1
theorem KG.nm:∀ d∈ds,Al d=true→d.name≠[104]:=fun d hd hc=>((LI (h.ok d hd)).ev hc).2
theorem KG.frm:∀ d∈ds,0≤d.frm∧d.frm≤30000:=fun d hd=>(LI (h.ok d hd)).frm
end
def ti (s:CT):Prop:=∀ u∈s.2,HP u.1
def Jt (s s':CT):Prop:=ti s→ti s'
theorem Vn (F:BD→Int×Int×Int) (p:BD) (b:HP p) (s:CT):Jt s (Cj F p s).2:=by
 unfold Cj
 split
 ·exact fun h=>h
 ·cases !((F p).2.2 == 0)
  ·intro h q a
   rcases List.mem_append.1 a with a | a
   ·exact h q a
   ·rw [List.mem_singleton.1 a]; exact b
  ·exact fun h=>h
theorem Vr (f:Ex→CT→Cc):∀ (ks:List Ex) (_:∀ k∈ks,∀ s,DN s.1→Jt s (f k s).2) (_:∀ k∈ks,∀ s,kp s (f k s).2) (i:Nat) (a b:Int×Int) (s:CT),DN s.1→Jt s (CZ f ks i a b s).2.2.2
 | [],_,_,_,_,_,s,_=>fun h=>h
 | k :: r,hf,hk,i,a,b,s,hs=>by
  have e:=hf k (by simp) s hs
  unfold CZ
  cases !((f k s).1.2.2 == 0)
  ·exact fun h=>Vr f r (fun d c=>hf d (by simp [c])) (fun d c=>hk d (by simp [c])) _ _ _ _ (hk k (by simp) s hs) (e h)
  ·exact e
theorem eI (f:Ex→CT→Cc) (x:Ex) (hf:∀ k∈x.ks,∀ s,DN s.1→Jt s (f k s).2) (b:∀ k∈x.ks,∀ s,kp s (f k s).2) (s:CT) (hs:DN s.1):Jt s (Bt f x s).2:=by
 unfold Bt
 split
 ·rename_i k0 k1 r hx
  rw [hx] at hf b
  have a:=hf k0 (by simp) s hs
  have hr:=b k0 (by simp) s hs
  cases !((f k0 s).1.2.2 == 0)
  ·show Jt s (cond _ _ _:Cc).2
   cases (x.op == 12 && ((f k0 s).1.1 == 0))
   ·show Jt s (cond _ _ _:Cc).2
    cases (x.op == 13 && !((f k0 s).1.1 == 0))
    ·show Jt s (cond _ _ _:Cc).2
     cases (x.op == 18 && ((f k0 s).1.1 == 0))
     ·exact fun h=>hf k1 (by simp) _ hr (a h)
     ·cases r with
      | nil=>exact fun h=>h
      | cons k2 r=>exact fun h=>hf k2 (by simp) _ hr (a h)
    ·exact a
   ·exact a
  ·exact a
 ·exact fun h=>h
theorem OY (F:BD→Int×Int×Int) (c:∀ p,vR (F p)):∀ (h:Nat) (x:Ex) (s:CT),GL h x→DN s.1→Jt s (As F h x s).2
 | 0,_,_,hx,_=>hx.elim
 | h + 1,x,s,hx,hs=>by
  obtain ⟨f,h2,m,l,j,i,g⟩:=hx
  unfold As
  cases (x.op == 1)
  ·show Jt s (cond _ _ _:Cc).2
   cases (x.op == 2)
   ·show Jt s (cond _ _ _:Cc).2
    cases (x.op == 3 || (x.op == 20 || x.op == 21))
    ·show Jt s (cond _ _ _:Cc).2
     cases (x.op == 18 || (x.op == 12 || x.op == 13))
     ·have hu:=Vr (As F h) x.ks (fun k d s hs=>OY F c h k s (g k d) hs) (fun k _ s=>GJ F c h k s) 0 (0,0) (0,0) s hs
      have hv:=OM (As F h) x.ks (fun k _ s=>GJ F c h k s) (fun k d s hs=>L8 F c h k s (g k d) hs) 0 (0,0) (0,0) s hs (EC 0) (EC 0)
      show Jt s (match CZ (As F h) x.ks 0 (0,0) (0,0) s with
       | (e,a,b,s')=>cond (!(e == 0)) ((0,0,e),s') (cond (x.op == 4) (Cj F (x.op,x.nm,0,a.1,a.2) s') (CR x a.1 a.2 b.1 b.2,s'))).2
      generalize CZ (As F h) x.ks 0 (0,0) (0,0) s=q at hu hv ⊢
      obtain ⟨e,a,b,s'⟩:=q
      show Jt s (cond _ _ _:Cc).2
      cases !(e == 0)
      ·show Jt s (cond _ _ _:Cc).2
       cases (x.op == 4)
       ·exact hu
       ·exact fun h=>Vn F (x.op,x.nm,0,a.1,a.2) ⟨f.1,f.2.1,Lr,hv.1.1,hv.1.2⟩ s' (hu h)
      ·exact hu
     ·exact eI (As F h) x (fun k d s hs=>OY F c h k s (g k d) hs) (fun k _ s=>GJ F c h k s) s hs
    ·exact Vn F _ ⟨f.1,f.2.1,f.2.2.1,Lr,Lr⟩ s
   ·exact fun h=>h
  ·exact fun h=>h
theorem nX (cl:Bool) (cm:List (BD×Int×Int)) (hcm:DN cm) (nm:List (List UInt8×Int×Int)) (sc:List (List UInt8×List Ha)) (pa:List Dn) (p:BD):vR (Bw cl cm nm sc pa p):=by
 have h:=OT cl cm hcm nm (sc.map fun q=>(q.1,(q.2,none,0))) pa p
 rw [Qp,List.map_map] at h
 have e:sc.map ((fun q:List UInt8×GV=>(q.1,q.2.1)) ∘ fun q=>(q.1,(q.2,none,0)))=sc:=(List.map_congr_left (g:=id) fun _ _=>rfl).trans (List.map_id sc)
 rwa [e] at h
theorem dU (F:BD→Int×Int×Int) (b:∀ p,vR (F p)) (h:Nat) (d:Df) (hx:GL h d.body) (hn:nE d.body≤1000000):(BA F h d ([],[])).2.2.length≤10000000∧∀ u∈(BA F h d ([],[])).2.2,HP u.1:=by
 have c:=OY F b h d.body ([],[]) hx (fun p a=>by cases a) (fun p a=>by cases a)
 have h2:=(Gb F h d.body ([],[])).2
 have e:(BA F h d ([],[])).2=(As F h d.body ([],[])).2:=by
  unfold BA
  cases !((As F h d.body ([],[])).1.2.2 == 0)
  ·cases d.kind == 4 <;> rfl
  ·rfl
 rw [e]
 exact ⟨by simp at h2; omega,c⟩
theorem Mq {ds:List Df} {sc:List (List UInt8×List Ha)} {pa:List Dn} {h:Nat} {fnd:List (Nat×Bool)}:∀ (r:List Nat) (nm:List (List UInt8×Int×Int)) (a:List Cr),(Dz ds sc pa h fnd r nm a).1.length≤a.length + r.length
 | [],_,_=>Nat.le_refl _
 | i :: r,nm,a=>by
  rw [Dz]
  cases !((AO fnd i).getD false)
  ·simp only [cond_false]
   cases !((BA (Bw false [] nm sc pa) h (ds.getD i default) ([],[])).1.2.2 == 0)
   ·refine Nat.le_trans (Mq r _ _) ?_
    rw [List.length_append,List.length_singleton,List.length_cons]
    omega
   ·exact Nat.zero_le _
  ·refine Nat.le_trans (Mq r _ _) ?_
   rw [List.length_cons]
   omega
theorem kF {n:List UInt8} {ds:List Df} {day:Int} {h:Nat} {ins:List DQ} {pa:List Dn} {nm:List UInt8} (hn:∀ d∈ds,nE d.body≤1000000):(Bm n ds day h ins pa nm).1.length≤ds.length:=by
 unfold Bm
 cases !(Cd n ds day == 0)
 ·simp only [cond_false]
  cases AO (Bi n ds day).2.1 nm with
  | none=>exact Nat.zero_le _
  | some r=>
   simp only
   cases !((DZ n ds day r.toNat).2 == 0)
   ·have a:=Mq (ds:=ds) (sc:=(Bi n ds day).2.2) (pa:=pa) (h:=h) (fnd:=(DZ n ds day r.toNat).1) (Ag n ds day).1 (Ih (Bi n ds day).1 ins []) []
    have h2:=(Rn (n:=n) (p1:=day) hn).2
    simp only [List.length_nil,Nat.zero_add] at a
    exact Nat.le_trans a h2
   ·exact Nat.zero_le _
 ·exact Nat.zero_le _
theorem kE {n:List UInt8} {ds:List Df} {day:Int} {h:Nat} {ins:List DQ} {pa:List Dn} {nm:List UInt8} (hl:ds.length≤1000) (ht:∀ d∈ds,FU d) (hn:∀ d∈ds,nE d.body≤1000000) (c:∀ d∈ds,Al d=true→GL h d.body) (l:(Bm n ds day h ins pa nm).2=0):Il (Bm n ds day h ins pa nm).1:=by
 obtain ⟨f,_,a⟩:=L5 l
 refine ⟨Nat.le_trans (kF hn) hl,fun e he=>?_⟩
 obtain ⟨i,hi,b,k,rfl⟩:=a e he
 have hm:=Dt (Fm _ (JX.1 i hi))
 obtain ⟨j,g⟩:=dU (Bw false [] b (Bi n ds day).2.2 pa) (nX _ _ (fun p f=>by cases f) _ _ _) h _ (c _ hm (LA i hi)) (hn _ hm)
 exact ⟨(ht _ hm).2,j,g⟩
end Go.Proofs.YtkjbdagicjbjjaaGreat
namespace Go.Proofs.YtkjbdagicjbjjaaGreat
noncomputable section
open Go.RowKit
set_option maxRecDepth 100000
set_option maxHeartbeats 1000000
def Qq:Ex:=.mk 3 0 0 0 0 0 [103,114,97,100,101] 0 0 []
def ni:Ex:=.mk 4 0 0 0 0 0 [119,97,103,101] 0 0 [Qq]
def V9:Df:=⟨1,[103,114,97,100,101],false,0,0,0,0,[],BO,0,0,0⟩
def Qs:Df:=⟨2,[119,97,103,101],false,0,0,0,0,[(1,15,1)],BO,0,0,0⟩
def WA:Df:=⟨3,[98,97,115,101],false,0,0,0,0,[],ni,0,0,0⟩
def Fs:List Df:=[V9,Qs,WA]
def nT:List DQ:=[([103,114,97,100,101],2,1)]
def Yq:DP:=((3,[103,114,97,100,101],0,0,0),2,1)
def LX:DP:=((4,[119,97,103,101],0,2,1),15,1)
def JN:Cr:=([98,97,115,101],0,[Yq,LX],15,1)
theorem zH:Bm [109] Fs 0 3 nT [] [98,97,115,101]=([JN],0):=by kernel_rfl
theorem zG:Bm [109] Fs 0 3 [] [] [103,114,97,100,101]=([],7):=by kernel_rfl
theorem zF:HZ [109] Fs 0 3 [JN]=[Yq]:=by kernel_rfl
theorem zE:Fy [109] Fs 0 3 [JN]=true:=by kernel_rfl
theorem Gl:∀ d∈Fs,FU d:=by
 intro d hd
 simp only [Fs,List.mem_cons,List.not_mem_nil,or_false] at hd
 rcases hd with rfl | rfl | rfl <;> simp [FU,V9,Qs,WA,BO,Qq,ni,DR,IK]
theorem M7:∀ d∈Fs,nE d.body≤1000000:=by
 intro d hd
 simp only [Fs,List.mem_cons,List.not_mem_nil,or_false] at hd
 rcases hd with rfl | rfl | rfl <;> decide
theorem M8:∀ d∈Fs,Al d=true→GL 3 d.body:=by
 intro d hd hc
 simp only [Fs,List.mem_cons,List.not_mem_nil,or_false] at hd
 rcases hd with rfl | rfl | rfl
 ·cases hc
 ·cases hc
 ·exact (FY (h:=2) (by decide) (by decide) (by decide) (by decide) (by decide) (by decide) (fun h=>absurd h (by decide)) (fun h=>absurd h (by decide)) fun k a=>by
   rw [List.mem_singleton.1 a]
   exact FY (h:=1) (by decide) (by decide) (by decide) (by decide) (by decide) (by decide) (fun h=>absurd h (by decide)) (fun h=>absurd h (by decide)) fun k a=>(by cases a)).2.2
theorem RJ:Il [JN]:=by
 refine ⟨by decide,fun e he=>?_⟩
 rw [List.mem_singleton.1 he]
 refine ⟨by decide,by decide,fun u hu=>?_⟩
 rcases List.mem_cons.1 hu with rfl | hu
 ·exact ⟨⟨by decide,by decide⟩,by decide,⟨by decide,by decide⟩,⟨by decide,by decide⟩,⟨by decide,by decide⟩⟩
 ·rw [List.mem_singleton.1 hu]
  exact ⟨⟨by decide,by decide⟩,by decide,⟨by decide,by decide⟩,⟨by decide,by decide⟩,⟨by decide,by decide⟩⟩
theorem Ki (w:World):rowsEx w none []:=⟨[],rfl,.inl rfl⟩
theorem lc {w:World} {b:Nat} (f:Az.good w ⟨b + 1,0,[Hm (1,15,1)].flatten,101,true⟩) (e:Az.good w ⟨b + 3,0,[AW Qq none 0].flatten,53,true⟩) (d:Az.good w ⟨b + 5,0,[Be V9 none 0 none 0,Be Qs (some ⟨b + 1,0,none⟩) 1 none 0,Be WA none 0 (some ⟨b + 3,0,none⟩) 1].flatten,59,true⟩):rowsDf w (some ⟨b + 5,0,none⟩) Fs:=by
 have c:Cb w (some ⟨b + 1,0,none⟩) [(1,15,1)]:=C8 (by simp) f
 have a:rowsEx w (some ⟨b + 3,0,none⟩) [Qq]:=⟨[AW Qq none 0],⟨_,_,rfl,V1 (Ki w),rfl⟩,C8 (by simp) e⟩
 exact ⟨[Be V9 none 0 none 0,Be Qs (some ⟨b + 1,0,none⟩) 1 none 0,Be WA none 0 (some ⟨b + 3,0,none⟩) 1],⟨_,_,rfl,I5 (.inl rfl) (Ki w),_,_,rfl,I5 c (Ki w),_,_,rfl,I5 (.inl rfl) a,rfl⟩,C8 (by simp) d⟩
attribute [local irreducible] A8 BL AC AD AF Ao AY AL Aq Bb Cn BR Dx Cm BK At Fr
noncomputable def Xj:Code:=Tryz.f28.body.getD .skip
def zN:=AA 60 [.code Xj]
theorem LW (w:World):Calls Tryz.prog 28 ([]:List Value).toArray w fun e w'=>∃ g,e=.returned (.agg ⟨[By [109],.slice (IN g) 3 3]⟩)∧Below w.heap.size w w'∧rowsDf w' (IN g) Fs:=by
 refine AR (args:=[]) (fn:=Tryz.f28) (c:=Xj) (n:=16) ?_
 refine Af zN [⟨w.heap.size,0,[By [109],.slice (some ⟨w.heap.size + 5,0,none⟩) 3 3],27,true⟩,⟨w.heap.size + 1,0,[Hm (1,15,1)].flatten,101,true⟩,⟨w.heap.size + 2,0,Be Qs (some ⟨w.heap.size + 1,0,none⟩) 1 none 0,59,true⟩,⟨w.heap.size + 3,0,[AW Qq none 0].flatten,53,true⟩,⟨w.heap.size + 4,0,AW ni (some ⟨w.heap.size + 3,0,none⟩) 1,53,true⟩,⟨w.heap.size + 5,0,[Be V9 none 0 none 0,Be Qs (some ⟨w.heap.size + 1,0,none⟩) 1 none 0,Be WA none 0 (some ⟨w.heap.size + 3,0,none⟩) 1].flatten,59,true⟩] (Wk.start w) [(2,0),(4,0),(2,0),(4,0),(0,0)] fun b a=>?_
 exact AJ a (0,0) (.agg ⟨[By [109],.slice (some ⟨w.heap.size + 5,0,none⟩) 3 3]⟩) ⟨_,rfl,a.B,lc (a.ent 1 rfl) (a.ent 3 rfl) (a.ent 5 rfl)⟩
noncomputable def X3:Code:=Tryz.f11.body.getD .skip
def ow:=AA 60 [.code X3]
def ov:=AA 60 (AC ow)
def ou:=AA 60 (AC ov)
def ot:=Ai 3 (AC (AC ou))
def or:=AA 60 (AL ot)
def oq:=AA 60 (AF or)
def ZM:=AA 60 (AC oq)
def ZL:=AA (Ak (Aa) 90 (AC ZM)) (AC ZM)
def ZK:=AA (Ak (Fw 42) 90 (AC ZL)) (AC ZL)
def ZJ:=AA (Ak (EO) 90 (AC (AC (AC ZK)))) (AC (AC (AC ZK)))
def TS:=AA (Ak (Aa) 90 (AC ZJ)) (AC ZJ)
def fM:=AA (Ak (Fw 3) 90 (AC TS)) (AC TS)
def fL:=AA 60 (AC fM)
def TR:=AA 60 (AC fL)
def TQ:=AA (Ak (Aa) 90 (AC TR)) (AC TR)
def TP:=AA (Ak (Fw 9) 90 (AC TQ)) (AC TQ)
def fK:=AA (Ak (EO) 90 (AC TP)) (AC TP)
def ua:=AA 60 (AC fK)
theorem Wj (w:World):(binOp .eql 94 (.agg ⟨CQ LX⟩) (.agg ⟨CQ LX⟩)).run Tryz.prog w=.ok (.bool true) w:=by
 show (binOp .eql 94 (.agg #[AI 4,By [119,97,103,101],AI 0,AI 2,AI 1,AI 15,AI 1]) (.agg #[AI 4,By [119,97,103,101],AI 0,AI 2,AI 1,AI 15,AI 1])).run Tryz.prog w=_
 simp [go_sem]
theorem VO (w:World):Calls Tryz.prog 11 ([]:List Value).toArray w fun e w'=>e=.returned (.bool true)∧Below w.heap.size w w':=by
 refine AR (args:=[]) (fn:=Tryz.f11) (c:=X3) (n:=76) ?_
 refine AB ow (Wk.start w) [] fun w1 K1=>?_
 refine A7 (args:=[]) (LW w1) fun t w2 i=>?_
 obtain ⟨g,rfl,b2,hR⟩:=i
 refine ⟨_,rfl,?_⟩
 have r:=K1.B.trans (b2.mono K1.B.size)
 refine Af ov [⟨w2.heap.size,0,[F4 ([103,114,97,100,101],2,1)].flatten,81,true⟩] (Wk.start w2) [] fun w3 K3=>?_
 refine A7 (args:=[.agg ⟨[By [109],.slice (IN g) 3 3]⟩,AI 0,.slice (IN w2.heap.size) 1 1,.slice none 0 0,By [98,97,115,101]]) (Kr [109] (IN g) Fs 3 0 3 (IN w2.heap.size) nT 1 none [] 0 [98,97,115,101] w3 (hR.below K3.B) (by decide) (by decide) (by decide) Gl (fun d hd=>(Gl d hd).1) M7 M8 (C8 (by simp [nT]) (K3.ent 0 rfl)) (by decide) (by decide) ⟨[],trivial,.inl rfl⟩ (by decide) (by decide) (by decide)) fun t w4 i=>?_
 rw [zH] at i
 obtain ⟨rA,q,sl,rfl,o,b4,H4⟩:=i
 have hl:sl.length=1:=by have:=congrArg List.length o; simpa using this
 obtain ⟨x,rfl⟩:=List.length_eq_one_iff.1 hl
 obtain ⟨e,A1,c1⟩:=x
 obtain rfl:e=JN:=(List.cons.inj o).1
 refine ⟨_,rfl,?_⟩
 have K4:=K3.join b4 H4
 refine AB ou K4 [] fun w5 K5=>?_
 refine A7 (args:=[]) (LW w5) fun t w6 i=>?_
 obtain ⟨g2,rfl,b6,g1⟩:=i
 refine ⟨_,rfl,?_⟩
 have K6:=K5.below b6
 refine A7 (args:=[.agg ⟨[By [109],.slice (IN g2) 3 3]⟩,AI 0,.slice none 0 0,.slice none 0 0,By [103,114,97,100,101]]) (Kr [109] (IN g2) Fs 3 0 3 none [] 0 none [] 0 [103,114,97,100,101] w6 g1 (by decide) (by decide) (by decide) Gl (fun d hd=>(Gl d hd).1) M7 M8 (.inl rfl) (by decide) (by decide) ⟨[],trivial,.inl rfl⟩ (by decide) (by decide) (by decide)) fun t w7 i=>?_
 rw [zG] at i
 obtain ⟨rB,rd,sl,rfl,o,b7,_⟩:=i
 obtain rfl:sl=[]:=List.map_eq_nil_iff.1 o
 refine ⟨_,rfl,?_⟩
 have j:=K6.below b7
 have a0:=j.H.rowsSt (j.ix 0) (j.ix 1) (j.at 0 rfl) (j.at 1 rfl)
 obtain ⟨l,m,rfl,b0,x0⟩:=(j.H.rowsF (f:=Ch) (fun _=>rfl) (j.ix 0) (j.at 0 rfl)).all (by simp)
 obtain ⟨gu,fu,rfl,z0,v0⟩:=(Th.rowsUse ((j.H.all (j.ix 1) _ (j.at 1 rfl)) (Gf (JN,A1,c1)) (by simp))).all (Nat.succ_pos 1)
 have s:=fun u (hu:Below w7.heap.size w7 u)=>Ab (x0 0 _ rfl) b0 hu
 have t0:=fun u (hu:Below w7.heap.size w7 u)=>Ab (v0 1 LX rfl) z0 hu
 refine Am 3 ot (Wk.start w7) [] fun w8 K8=>?_
 refine Ap K8 (mem:=[⟨l,m + 0 * 5,(Ch (JN,some ⟨gu,fu,none⟩,c1)),44,false⟩]) [(11,0,2)] [⟨9,[(27,.slice (some ⟨l,m,none⟩) 1 q)],.pointer (some ⟨l,m + 0 * 5,none⟩),true⟩] (fun e' d1=>by rw [List.mem_singleton.1 d1]; exact ⟨Nat.lt_of_lt_of_le b0 K8.B.size,s _ K8.B⟩) (fun sp w0=>?_) fun w9 E9 K9=>?_
 ·rw [List.mem_singleton.1 w0]
  exact BG fun _ E y hy=>BZ (g:=l) (off:=m) (sz:=5) (k:=0) (len:=1) (cap:=q) 29 (.tmp 27) (.const (AI 0)) (by decide) Tryz.underlying29
 refine AB or K9 [] fun l2 s1=>?_
 refine AG false (fun h=>by cases h) (fun _=>?_)
 refine AB oq s1 [] fun s0 r1=>?_
 refine A7 (args:=[]) (LW s0) fun t r0 i=>?_
 obtain ⟨g3,rfl,l1,f1⟩:=i
 refine ⟨_,rfl,?_⟩
 refine AB ZM (Wk.start r0) [] fun q0 j0=>?_
 have e0:=(r1.below l1).below j0.B
 refine A7 (args:=[.agg ⟨[By [109],.slice (IN g3) 3 3]⟩,AI 0,.slice (some ⟨l,m,none⟩) 1 q]) (kD [109] (IN g3) Fs 3 0 3 (some ⟨l,m,none⟩) [JN] q q0 (f1.below j0.B) (by decide) (by decide) (by decide) Gl (fun d hd=>(Gl d hd).1) M7 M8 (a0.below e0.B) RJ) fun t k2 i=>?_
 rw [zF] at i
 obtain ⟨rF,rG,rfl,k1,v1⟩:=i
 refine ⟨_,rfl,?_⟩
 have q1:=e0.join k1 v1
 refine Ae Aa ZL q1 [] fun i2 p1=>?_
 refine Au (g:=l) (off:=m) (cap:=q) (sz:=5) (k:=0) (len:=1) (some 42) (by decide) Tryz.underlying29 ?_
 refine Ae (Fw 42) ZK p1 [] fun h2 z=>?_
 refine Dh 42 l (m + 0 * 5 + 2) (.slice (some ⟨gu,fu,none⟩) 2 c1) (some 44) (s _ z.B 2 _ rfl) ?_
 refine Au (g:=gu) (off:=fu) (cap:=c1) (sz:=7) (k:=1) (len:=2) (some 45) (by decide) Tryz.underlying42 ?_
 refine BI 94 gu (fu + 1 * 7) (CQ LX) (some 46) (t0 _ z.B) ?_
 refine Ae EO ZJ z [] fun p0 o1=>?_
 refine C4 (v:=.bool true) (Cy (k:=.eql) (T:=94) (a:=.agg ⟨CQ LX⟩) (b:=.agg ⟨CQ LX⟩) (Wj p0)) ?_
 refine Ae Aa TS o1 [] fun e2 n1=>?_
 refine Au (g:=l) (off:=m) (cap:=q) (sz:=5) (k:=0) (len:=1) (some 53) (by decide) Tryz.underlying29 ?_
 refine Ae (Fw 3) fM n1 [] fun d2 d0=>?_
 refine Dh 3 l (m + 0 * 5 + 3) (AI 15) (some 56) (s _ d0.B 3 _ rfl) ?_
 refine AB fL d0 [] fun n0 m1=>?_
 refine A7 (args:=[]) (LW n0) fun t m0 i=>?_
 obtain ⟨g4,rfl,i1,e1⟩:=i
 refine ⟨_,rfl,?_⟩
 refine AB TR (Wk.start m0) [] fun l0 i0=>?_
 have c0:=(m1.below i1).below i0.B
 refine A7 (args:=[.agg ⟨[By [109],.slice (IN g4) 3 3]⟩,AI 0,.slice (some ⟨l,m,none⟩) 1 q]) (IA [109] (IN g4) Fs 3 0 3 (some ⟨l,m,none⟩) [JN] q l0 (e1.below i0.B) (by decide) (by decide) (by decide) Gl (fun d hd=>(Gl d hd).1) M7 M8 (a0.below c0.B) RJ) fun t k0 i=>?_
 rw [zE] at i
 obtain ⟨rfl,h1⟩:=i
 refine ⟨_,rfl,?_⟩
 have p:=c0.below h1
 obtain ⟨gf,ff,rfl,a1,b1⟩:=(p.H.rowsUse (p.ix 0) (p.at 0 rfl)).all (by decide)
 refine Ae Aa TQ (Wk.start k0) [] fun c2 u1=>?_
 refine Au (g:=gf) (off:=ff) (cap:=rG) (sz:=7) (k:=0) (len:=1) (some 71) (by decide) Tryz.underlying42 ?_
 refine Ae (Fw 9) TP u1 [] fun a2 h0=>?_
 refine Dh 9 gf (ff + 0 * 7 + 1) (By [103,114,97,100,101]) (some 73) (Ab (b1 0 Yq rfl) a1 h0.B 1 _ rfl) ?_
 refine Ae EO fK h0 [] fun z1 t1=>?_
 refine C4 (Gw (a:=[103,114,97,100,101]) (b:=[103,114,97,100,101]) (T:=9) (T':=9) (x:=.tmp 73) (y:=.const (By [103,114,97,100,101]))) ?_
 refine AB ua t1 [] fun x1 g0=>?_
 exact AJ g0 (0,0) (.bool true) ⟨rfl,r.trans ((j.B.trans (((p.below g0.B).B).mono j.B.size)).mono r.size)⟩
end
end Go.Proofs.YtkjbdagicjbjjaaGreat
namespace Go.Proofs.YtkjbdagicjbjjaaGreat
noncomputable section
open Go.RowKit
set_option maxRecDepth 100000
set_option maxHeartbeats 1000000
attribute [local irreducible] A8 BL AC AD AF Ao AY AL Aq Bb Cn BR Dx Cm BK At Fr
noncomputable def Xw:Code:=Tryz.f3.body.getD .skip
def oh:=AA 60 [.code Xw]
def og:=AA 60 (AC oh)
def NF:=AA 60 (AC og)
def ju:Array Oper:=AS NF
def zC:Wr:=[(19,0),(20,1),(21,2),(22,3),(23,4),(24,5),(25,6),(26,7)]
theorem tD {R:Ending→World→Prop} {b:Nat} {ns:List Int} {a w0 w5:World} {A:Option Addr} {c:Nat} {ds:List Df} {E:Nat→Value} {d:Int} (l:w0.heap.size=b) (k:KG b a A c ds) (K5:Wk w0 w5 [⟨a.heap.size,0,[By A4,.slice A ds.length c],27,true⟩] [BH w0 b ns,Bj b a] []) (hw:Below w0.heap.size w0 a)
  (H:∀ (ins:List DQ) (pa:List Dn) (nm:List UInt8) (p:Option Addr) (o:Nat) (sl:List KD) (E:Nat→Value) (w6:World),sl.map (·.1)=(Bm A4 ds 20464 3 ins pa nm).1→Wk w0 w6 [⟨a.heap.size,0,[By A4,.slice A ds.length c],27,true⟩] [BH w0 b ns,Bj b a,FT p o sl,Th.all (sl.map Gf)] []→At Tryz.prog 3 R (AL NF) (Fr 118 (BC E [(1,AI d),(5,BY b),(6,BY (a.heap.size)),(7,AI 20464),(8,.slice p sl.length o),(9,AI (Bm A4 ds 20464 3 ins pa nm).2)])) w6) :
  At Tryz.prog 3 R NF (Fr 118 (BC E [(1,AI d),(5,BY b),(6,BY (a.heap.size)),(7,AI 20464)])) w5:=by
 refine EV ju 14 ?_
 refine Dq (md:=.any) (fuel:=6) (L:=[BV 0 [] (.agg ⟨[By A4,.slice A ds.length c]⟩),BV 1 [] (AI 20464),BV 2 [] (BY b),⟨3,[2],[3],(fun j u=>∃ (A:Option Addr) (c:Nat) (ins:List DQ),j=[.slice A ins.length c]∧ins.length≤4∧(∀ x∈ins,x.1.length≤2)∧Ac (b + 1) u [KK A c ins])⟩,BV 4 [] (BY b),⟨5,[4],[5],(fun j u=>∃ (A:Option Addr) (c:Nat) (pa:List Dn) (L':List Th),j=[.slice A pa.length c]∧pa.length≤2∧(∀ x∈pa,x.2.length≤4)∧Ac (b + 1) u L'∧∀ u,Ac (b + 1) u L'→EE u A pa)⟩,BV 6 [] (BY b),⟨7,[6],[7],(fun j _=>∃ s:List UInt8,j=[By s]∧s.length≤2)⟩]) (W:=zC) (C:=fun u=>Wk w0 u [⟨a.heap.size,0,[By A4,.slice A ds.length c],27,true⟩] [BH w0 b ns,Bj b a] []) (Ext:=fun u u'=>CE b u u') (K5.below (Below.refl _ _).drew) (fun u=>CE.refl b u) (fun _ _ _ y h2=>y.trans h2) ⟨?_,?_,?_,?_,?_,?_,?_,?_,trivial⟩ rfl ?_
 ·exact ⟨fun _ _ _ _ _ h=>h,fun vals u hu hb=>AM.knownE [] trivial (AM.reads ⟨0,[⟨a.heap.size,0,[By A4,.slice A ds.length c],27,true⟩],(0,0),[]⟩ (fun e he=>by rw [List.mem_singleton.1 he]; exact hu.ent 0 rfl) (.agg ⟨[By A4,.slice A ds.length c]⟩) ⟨hu,CE.refl b u,rfl⟩)⟩
 ·exact ⟨fun _ _ _ _ _ h=>h,fun vals u hu hb=>AM.knownE [] trivial (AM.reads ⟨0,[],(0,0),[]⟩ (fun e he=>by cases he) (AI 20464) ⟨hu,CE.refl b u,rfl⟩)⟩
 ·exact ⟨fun _ _ _ _ _ h=>h,fun vals u hu hb=>AM.knownE [] trivial (AM.reads ⟨0,[],(0,0),[]⟩ (fun e he=>by cases he) (BY b) ⟨hu,CE.refl b u,rfl⟩)⟩
 ·refine ⟨fun j u u' _ he h=>?_,fun vals u hu hb=>?_⟩
  ·obtain ⟨n,m,ins,y,h2,h3,h4⟩:=h
   exact ⟨n,m,ins,y,h2,h3,h4.but (Nat.lt_succ_self b) he⟩
  obtain ⟨h2,_⟩:=hb
  refine AM.knownE [(21,2,BY b)] ⟨(List.cons.inj h2).1,trivial⟩ (AM.call (f:=8) [.tmp 21] (args:=[BY b]) (ats:=#[23]) rfl (CG _ u) ((dt b ns u (hu.tapeOk l 0 rfl)).mono fun e w' v=>?_))
  obtain ⟨n,m,ins,rfl,t,q2,q3,q,g⟩:=v
  exact ⟨_,rfl,hu.tick l 0 rfl q g,g,n,m,ins,rfl,t,q2,q3⟩
 ·exact ⟨fun _ _ _ _ _ h=>h,fun vals u hu hb=>AM.knownE [] trivial (AM.reads ⟨0,[],(0,0),[]⟩ (fun e he=>by cases he) (BY b) ⟨hu,CE.refl b u,rfl⟩)⟩
 ·refine ⟨fun j u u' _ he h=>?_,fun vals u hu hb=>?_⟩
  ·obtain ⟨n,m,pa,L',y,h2,h3,h4,h5⟩:=h
   exact ⟨n,m,pa,L',y,h2,h3,h4.but (Nat.lt_succ_self b) he,h5⟩
  obtain ⟨h2,_⟩:=hb
  refine AM.knownE [(23,4,BY b)] ⟨(List.cons.inj h2).1,trivial⟩ (AM.call (f:=9) [.tmp 23] (args:=[BY b]) (ats:=#[23]) rfl (CG _ u) ((nD b ns u (hu.tapeOk l 0 rfl)).mono fun e w' v=>?_))
  obtain ⟨n,m,pa,L',rfl,t,q2,q3,q6,q,g⟩:=v
  exact ⟨_,rfl,hu.tick l 0 rfl q g,g,n,m,pa,L',rfl,t,q2,q3,q6⟩
 ·exact ⟨fun _ _ _ _ _ h=>h,fun vals u hu hb=>AM.knownE [] trivial (AM.reads ⟨0,[],(0,0),[]⟩ (fun e he=>by cases he) (BY b) ⟨hu,CE.refl b u,rfl⟩)⟩
 ·refine ⟨fun _ _ _ _ _ h=>h,fun vals u hu hb=>?_⟩
  obtain ⟨h2,_⟩:=hb
  refine AM.knownE [(25,6,BY b)] ⟨(List.cons.inj h2).1,trivial⟩ (AM.call (f:=10) [.tmp 25] (args:=[BY b]) (ats:=#[23]) rfl (CG _ u) ((nI b ns u (hu.tapeOk l 0 rfl)).mono fun e w' v=>?_))
  obtain ⟨s,t,rfl,q,g⟩:=v
  exact ⟨_,rfl,hu.tick l 0 rfl q g,g,s,rfl,t⟩
 intro vals z K8 _ w
 obtain ⟨x0,x1,_,⟨iA,ic,ins,x3,i1,i2,i3⟩,_,⟨pA,pc,pa,L',x5,p1,p2,p3,p4⟩,_,⟨nm,x7,n1⟩,_⟩:=w
 have hr:=k.rows z (K8.out l hw).2
 refine CI [(1,AI d),(5,BY b),(6,BY (a.heap.size)),(7,AI 20464),(19,vals 0),(20,vals 1),(22,vals 3),(24,vals 5),(26,vals 7)] fun E9=>?_
 rw [show vals 0=.agg ⟨[By A4,.slice A ds.length c]⟩ from (List.cons.inj x0).1,show vals 1=AI 20464 from (List.cons.inj x1).1,show vals 3=.slice iA ins.length ic from (List.cons.inj x3).1,show vals 5=.slice pA pa.length pc from (List.cons.inj x5).1,show vals 7=By nm from (List.cons.inj x7).1]
 refine WY (i:=8) (fuel:=5) (ju.getD 8 default) 7 [.tmp 19,.tmp 20,.tmp 22,.tmp 24,.tmp 26] [.agg ⟨[By A4,.slice A ds.length c]⟩,AI 20464,.slice iA ins.length ic,.slice pA pa.length pc,By nm] (by kernel_rfl) (by kernel_rfl) (by kernel_rfl) (ats:=#[27,3,33,35,9]) (by kernel_rfl) (by kernel_rfl) (by kernel_rfl) ((Kr A4 A ds c 20464 3 iA ins ic pA pa pc nm z hr (Nat.le_trans k.len (by decide)) k.cap (by decide) k.lim k.ex k.nE k.ev (i3.rowsF (fun _=>rfl) 0 rfl) (by omega) (fun e he=>Nat.le_trans (i2 e he) (by decide)) (p4 z p3) (by omega) (fun e he=>Nat.le_trans (p2 e he) (by decide)) (by omega)).mono fun en w9 hh=>?_)
 obtain ⟨p,o,sl,rfl,a0,b9,H9⟩:=hh
 have K9:=K8.join b9 H9
 refine ⟨_,rfl,RA (r:=0) (mem:=[]) K9 (Below.refl _ _) [9,10,11,12,13] [] [] (fun e he=>by cases he) (fun sp hs=>by cases hs) (by kernel_rfl) (by kernel_rfl) (fun X=>by kernel_rfl) fun u2 b0=>Em ⟨rfl,At.mid ?_⟩⟩
 refine AU [(1,AI d),(5,BY b),(6,BY (a.heap.size)),(7,AI 20464),(8,.slice p sl.length o),(9,AI (Bm A4 ds 20464 3 ins pa nm).2)] fun c0=>?_
 exact H ins pa nm p o sl c0 u2 a0 b0
end
end Go.Proofs.YtkjbdagicjbjjaaGreat
namespace Go.Proofs.YtkjbdagicjbjjaaGreat
open Go.RowKit
set_option maxRecDepth 100000
theorem PY {P:Program} {o:Oper} {ρ:Operand→Value} {α:Type} {T:TypeId} {n:Nat} {f:α→List Value→Prop} {b g c:Nat} {l:List α} {L:List Th} {w:World} (H:Ac b w L) (i:Nat) (hi:L[i]?=some (Th.row T n f (IN g) c l))
  (j:Nat) (e e':α) (he:l[j]?=some e) (q:Nat) (hq:q < n) (v:Value) (e0:∀ r,f e r→f e' (r.set q v)) (hn:∀ e r,f e r→r.length=n) {t:TypeId} {x y:Operand} (ho:o.op=.store t x y) (hx:ρ x=.pointer (some ⟨g,0 + j * n + q,none⟩)) (hy:ρ y=v) (i0:JO P t=some 1) (hv:v.cells.toList=[v]) (h1:v.oneCell'=true) :
  ∃ w',(execOp ρ o).run P w=.ok .skip w'∧Ac b w' (L.set i (Th.row T n f (IN g) c (l.set j e')))∧Below b w w':=by
 obtain ⟨rs,s,hP⟩:(Th.row T n f (IN g) c l).P w:=H.all i _ hi
 rcases hP.2 with ⟨h0,_⟩ | ⟨g',cap,a,hA,_,hg,g0,p0,c0,ht⟩
 ·cases h0
 obtain ⟨rfl,rfl⟩:g=g'∧c=cap:=by
  injection hA with e1 e2 e3
  injection e1 with e1
  injection e1 with e1
  exact ⟨e1,e3⟩
 have m:=Hx hn s
 have q0:rs.length=l.length:=FO s
 obtain ⟨r,hr,j0⟩:=JY s he
 have m0:j < l.length:=(List.getElem?_eq_some_iff.1 he).1
 have r0:j * n + q < l.length * n:=by
  have:(j + 1) * n≤l.length * n:=Nat.mul_le_mul_right n m0
  rw [Nat.succ_mul] at this
  omega
 have s0:l.length * n≤c * n:=Nat.mul_le_mul_right n g0
 have z:(0 + j * n + q) + 0 + [v].length≤a.size:=by rw [c0]; simp; omega
 have p:=run_storeCells_at P g (0 + j * n + q) T [v] 0 a w hg z (fun u hu=>by rw [List.mem_singleton.1 hu]; exact h1)
 have a0:(a.toList.take ((0 + j * n + q) + 0)++[v]++a.toList.drop ((0 + j * n + q) + 0 + [v].length))=a.toList.set (j * n + q) v:=by
  rw [List.set_eq_take_append_cons_drop,if_pos (by rw [Array.length_toList,c0]; omega)]
  simp
 rw [a0] at p
 have b0:∀ k,k < w.heap.size→k≠g→(w.setRow g (a.toList.set (j * n + q) v).toArray).heap[k]?=w.heap[k]?:=fun k _ k0=>setRow_other w g k _ k0
 have d:(w.setRow g (a.toList.set (j * n + q) v).toArray).heap.size=w.heap.size:=by unfold World.setRow; simp
 have l0:=H.lo i _ hi g rfl
 have H':Ac b (w.setRow g (a.toList.set (j * n + q) v).toArray) (L.set i (Th.row T n f (IN g) c (l.set j e'))):=by
  refine H.set i hi (by rw [d]; exact Nat.le_refl _) (show (Th.row T n f (IN g) c (l.set j e')).P _ from ⟨rs.set j (r.set q v),Lf (e0 r j0) j s,?_,.inr ⟨g,c,_,by rw [List.length_set],Nat.zero_le _,setRow_heap w g a _ T _ hg,by rw [List.length_set]; exact g0,p0,by simp [c0],?_⟩⟩) (fun k h=>⟨?_,.inl h⟩) (fun k h hf=>b0 k h fun e=>hf (by rw [e]; rfl))
  ·have n0:=hP.1
   rw [HW hq m hr,List.length_set,List.length_set]
   exact n0
  ·rw [List.length_set,HW hq m hr,← ht,List.toList_toArray,List.take_set]
  ·obtain rfl:g=k:=by have:=Option.some.inj h; injection this
   rw [d]
   exact l0.2
 have hB:Below b w (w.setRow g (a.toList.set (j * n + q) v).toArray):=⟨rfl,rfl,rfl,by rw [d]; exact Nat.le_refl _,fun k h=>b0 k (Nat.lt_of_lt_of_le h H.base) (fun e=>by omega)⟩
 refine ⟨_,?_,H',hB⟩
 have d0:v.cells.size=1:=by rw [← Array.length_toList,hv]; rfl
 clear H' hB b0 d a0 z
 generalize 0 + j * n + q=o9 at p hx
 generalize w.setRow g (a.toList.set (j * n + q) v).toArray=w9 at p ⊢
 unfold execOp
 simp only [ho,hx,hy]
 simp [Instr.storeAt,Instr.sureAddr,storeVar,Gs i0,hv,d0,p]
theorem Ac.rowAtF {α:Type} {b:Nat} {w:World} {L:List Th} {T:TypeId} {n:Nat} {f:α→List Value} {A:Option Addr} {c:Nat} {l:List α} (hn:∀ e,(f e).length=n) (H:Ac b w L) (i:Nat) (hi:L[i]?=some (Th.row T n (fun e r=>r=f e) A c l)) (a:0 < l.length):∃ g,A=IN g∧g < w.heap.size∧∀ (j:Nat) e,l[j]?=some e→w.rangeAt g (0 + j * n) (f e):=by
 obtain ⟨g,rfl,hg⟩:=H.rowAt i hi a
 obtain ⟨k,off,d,h2,h⟩:=(H.rowsF hn i hi).all a
 simp only [Option.some.injEq,Addr.mk.injEq,and_true] at d
 obtain ⟨rfl,rfl⟩:=d
 exact ⟨g,rfl,hg,h⟩
theorem Il.set {l:List Cr} {k:Nat} {e e':Cr} (h:Il l) (he:l[k]?=some e) (hn:e'.1.length≤4294967296) (hu:e'.2.2.1=e.2.2.1):Il (l.set k e'):=by
 refine ⟨by rw [List.length_set]; exact h.1,fun x hx=>?_⟩
 rcases List.mem_or_eq_of_mem_set hx with hx | rfl
 ·exact h.2 x hx
 ·obtain ⟨_,h2,a⟩:=h.2 e (List.mem_of_getElem? he)
  exact ⟨hn,by rw [hu]; exact h2,by rw [hu]; exact a⟩
theorem yZ {m num den:Int} (c:0≤m) (g:m < 1000) (hv:Ad num den=true):IntKind.i64.wrap (num + IntKind.i64.wrap (1 + IntKind.i64.wrap (m * den)))≠num:=by
 obtain ⟨h,d,f,e⟩:=DU hv
 have b:0≤m * den:=Int.mul_nonneg c (by omega)
 have a:m * den≤1000 * 1000000:=Int.mul_le_mul (by omega) d (by omega) (by decide)
 generalize m * den=p at b a ⊢
 rw [IntWalk.i64_in p (by omega),IntWalk.i64_in (1 + p) (by omega),IntWalk.i64_in (num + (1 + p)) (by omega)]
 omega
theorem ye {m frm:Int} (d:0≤m) (c:m < 1000) (b:0≤frm) (a:frm≤30000):IntKind.i64.wrap (frm + IntKind.i64.wrap (1 + m))≠frm:=by
 rw [IntWalk.i64_in (1 + m) (by omega),IntWalk.i64_in (frm + (1 + m)) (by omega)]
 omega
theorem nY {ds:List Df} {ins:List DQ} {pa:List Dn} {nm:List UInt8} {e:Cr} (hok:∀ d∈ds,0≤d.frm∧d.frm≤30000) (c:(Bm A4 ds 20464 3 ins pa nm).2=0) (he:e∈(Bm A4 ds 20464 3 ins pa nm).1):0≤e.2.1∧e.2.1≤30000:=by
 obtain ⟨_,_,a⟩:=L5 c
 obtain ⟨i,hi,b,_,rfl⟩:=a e he
 exact hok _ (Dt (Fm _ (JX.1 i hi)))
theorem kB {b:Nat} {i:World} {A:Option Addr} {c:Nat} {ds:List Df} {ins:List DQ} {pa:List Dn} {nm:List UInt8} {k:Nat} {a:List UInt8} {frm:Int} {d:List DP} {num den m:Int} (h:KG b i A c ds) (f:(Bm A4 ds 20464 3 ins pa nm).2=0) (e:(Bm A4 ds 20464 3 ins pa nm).1[k]?=some (a,frm,d,num,den)) (g:0≤m) (m1:m < 1000) :
  Fy A4 ds 20464 3 ((Bm A4 ds 20464 3 ins pa nm).1.set k (a,frm,d,IntKind.i64.wrap (num + IntKind.i64.wrap (1 + IntKind.i64.wrap (m * den))),den))=false∧
  Fy A4 ds 20464 3 ((Bm A4 ds 20464 3 ins pa nm).1.set k (a,IntKind.i64.wrap (frm + IntKind.i64.wrap (1 + m)),d,num,den))=false∧
  Fy A4 ds 20464 3 ((Bm A4 ds 20464 3 ins pa nm).1.set k ([104],frm,d,num,den))=false:=by
 have hl:=(List.getElem?_eq_some_iff.1 e).1
 refine ⟨?_,?_,W1 hl rfl h.nm⟩
 ·rw [← Bool.not_eq_true]
  intro hv
  obtain ⟨_,h2,l⟩:=Nt (e':=(a,frm,d,IntKind.i64.wrap (num + IntKind.i64.wrap (1 + IntKind.i64.wrap (m * den))),den)) f e rfl rfl hv
  obtain ⟨h2,_⟩:=Prod.mk.inj h2
  refine yZ g m1 ?_ h2
  have j:Ad (IntKind.i64.wrap (num + IntKind.i64.wrap (1 + IntKind.i64.wrap (m * den)))) den=true:=l
  rwa [h2] at j
 ·rw [← Bool.not_eq_true]
  intro hv
  obtain ⟨n,_,_⟩:=Nt (e':=(a,IntKind.i64.wrap (frm + IntKind.i64.wrap (1 + m)),d,num,den)) f e rfl rfl hv
  have hf:=nY h.frm f (List.mem_of_getElem? e)
  exact ye g m1 hf.1 hf.2 n
end Go.Proofs.YtkjbdagicjbjjaaGreat

/-
  Part 44 of a proof: contracts of functions.
-/
import Derived.Test.YtkjbdagicjbjjaaGreatTf43
set_option linter.all false
namespace Go.Proofs.YtkjbdagicjbjjaaGreat
noncomputable section
open Go.RowKit
set_option maxRecDepth 100000
set_option maxHeartbeats 2000000
def A4:List UInt8:=[109,101,116,97,108]
def Qm:List Df:=[⟨1,[104],false,0,1,0,0,[],BO,0,0,0⟩,⟨1,[103],false,0,0,0,0,[],BO,0,0,0⟩,⟨1,[102],true,0,0,0,0,[],BO,0,0,0⟩,⟨5,[103,114,111,115,115],false,1,0,0,0,[],BO,0,0,0⟩,⟨5,[116,105,109,101],false,0,1,0,0,[],BO,0,0,0⟩]
def Vf:List (List UInt8):=[[114,49],[114,50],[114,51],[114,52]]
def Gg:List Ty:=[CJ,C1,DX,Bf]
def Vg:List (List UInt8):=[[97],[98]]
def Jj:List (Int×Int):=[(1,100),(1,20),(1,1)]
def Hc (i:Nat) (frm:Int) (x:Ex):Df:=⟨3,Vf.getD i [],(Gg.getD i Bf).1,(Gg.getD i Bf).2.1,(Gg.getD i Bf).2.2.1,(Gg.getD i Bf).2.2.2,frm,[],x,0,0,0⟩
def Jn (i:Nat) (x:Ex) (mode:Int) (q:Int×Int):Df:=⟨4,Vg.getD i [],false,0,0,0,20454,[],x,mode,q.1,q.2⟩
inductive M5 (H:Nat) (wl:Bool):Df→Prop
 | ins (d:Df) (hd:d∈Qm):M5 H wl d
 | sc (nm:List UInt8) (t:Ty) (frm:Int) (es:List (Int×Int×Int)) (h:(nm=[119]∧t=CJ)∨(nm=[115]∧t=Bf)) (hf:frm=20454∨frm=20459) (he:Et es):M5 H wl (CV nm t frm es)
 | rule (i:Nat) (frm:Int) (x:Ex) (n:Int) (hi:i < 4) (hf:frm=20454∨frm=20459) (hn:n=(i:Int) + 1∨(wl=true∧n=5)) (hx:DK n H (Gg.getD i Bf) x):M5 H wl (Hc i frm x)
 | pay (i:Nat) (x:Ex) (mode:Int) (q:Int×Int) (hi:i < 2) (h0:0≤mode) (h6:mode≤6) (hq:q∈Jj) (hx:DK (4 + (i:Int)) H C1 x):M5 H wl (Jn i x mode q)
abbrev En:=Df×List Value
def NU (x:En) (r:List Value):Prop:=r=x.2∧r.length=21∧r.all (·.oneCell')=true
abbrev N1 (A:Option Addr) (c:Nat) (xs:List En):Th:=Th.row 59 21 NU A c xs
def Ke (G:Nat→Prop) (xs:List En):Th where
 F:=G
 P u:=∀ x∈xs,FC G u x.1 x.2
 fr u u' h hs hk:=fun x hx=>(h x hx).keep hs fun g hg hl=>⟨hg,hk g hg hl⟩
theorem Xf {S:Nat→Prop} {u:World} {x:En} (h:FC S u x.1 x.2):NU x x.2:=by
 refine ⟨rfl,h.len,?_⟩
 obtain ⟨_,_,_,_,_,_,_,_,_,_,_,_,_,_,hc⟩:=h.cells
 rw [hc]
 rfl
theorem Qt {S:Nat→Prop} {w:World} {d:Df} {b:Option Addr} {a:Nat} (c:d.ents=[]) (h2:Cz S w d.body (AW d.body b a)):FC S w d (Be d none 0 b a):=⟨none,0,_,h2,.inl (by rw [c]; rfl),rfl⟩
theorem F8.but {b lo:Nat} {c:Df→Prop} (hb:b < lo):∀ v u a,CE b u a→F8 lo c v u→F8 lo c v a:=fun v u a he ⟨d,k,i,j,h,f,h2,e⟩=>⟨d,k,i,j,h,f,h2,e.keep he.size fun g hg hl=>⟨hg,he.block g hl (by omega)⟩⟩
theorem WB {b:Nat} {ns:List Int} {lo:Nat} {a:Df→Prop} {u:World} (hl:lo≤u.heap.size) {e:Ending} {w':World} (c:DfP b ns a u e w'):∃ v,e=.returned v∧BW b ns w'∧CE b u w'∧F8 lo a v w':=by
 obtain ⟨v,rfl,⟨d,n,l,m,k,j,h2,i⟩,h,f⟩:=c
 exact ⟨_,rfl,h,f,d,n,l,m,k,j,h2,i.keep (Nat.le_refl _) fun g hg _=>⟨Nat.le_trans hl hg,rfl⟩⟩
def GE (lo k:Nat) (Q:List Df→Prop) (v:Value) (u:World):Prop:=∃ (es:List En) (g:Nat),v=.slice (some ⟨g,0,none⟩) k k∧es.length=k∧lo≤g∧Az.good u ⟨g,0,(es.map (·.2)).flatten,59,true⟩∧(∀ x∈es,FC (fun g=>lo≤g) u x.1 x.2)∧Q (es.map (·.1))
theorem GE.but {b lo k:Nat} {Q:List Df→Prop} (hb:b < lo):∀ v u a,CE b u a→GE lo k Q v u→GE lo k Q v a:=fun v u a he ⟨es,g,h,h2,f,c,e,d⟩=>⟨es,g,h,h2,f,F6 c he.size (he.block g c.1 (by show g≠b; omega)),fun x hx=>(e x hx).keep he.size fun g hg hl=>⟨hg,he.block g hl (by omega)⟩,d⟩
theorem la {S b:Nat→Prop} {u:World} {d:Df} {a:List Value} (h:FC S u d a∨FC b u d a):FC (fun k=>S k∨b k) u d a:=by
 rcases h with h | h
 ·exact h.keep (Nat.le_refl _) fun g hg _=>⟨.inl hg,rfl⟩
 ·exact h.keep (Nat.le_refl _) fun g hg _=>⟨.inr hg,rfl⟩
theorem QM {Q:Exit→Act→World→Prop} {ops:Array Oper} {n fuel:Nat} {E:Nat→Value} {d:Array Bool} {w0 w f u:World} {M:List Az} {b:Nat} {ns:List Int} {A:Option Addr} {c:Nat} {xs o:List En} {G:Nat→Prop} (K:Wk w0 f M [BH w0 b ns,Bj b w,N1 A c xs,Ke G o] []) (hu:Wk w0 u M [BH w0 b ns,Bj b w,N1 A c xs,Ke G o] []) (es:List En) (g:Nat) (hg:Az.good u ⟨g,0,(es.map (·.2)).flatten,59,true⟩) (e:∀ x∈es,FC (fun k=>f.heap.size≤k) u x.1 x.2) (hl:xs.length + es.length≤1000) (i s x:Nat)
  (q:∀ y t w',Wk w0 w' M [BH w0 b ns,Bj b w,N1 y t (xs++es),Ke (fun k=>G k∨(f.heap.size≤k∧k < u.heap.size)) (o++es)] []→wpAny Tryz.prog .any ops Q fuel (d.setIfInBounds i true) (Fr n (Aq E (ops.getD i default).dst (.slice y (xs++es).length t))) w')
  (hs:Ax n E (.tmp s)=.slice A xs.length c) (hx:Ax n E (.tmp x)=.slice (some ⟨g,0,none⟩) es.length es.length) (ho:(ops.getD i default).op=.call { callee:=.builtin .append,args:=#[.tmp s,.tmp x],argTypes:=#[25,25] })
  (hc:(Region.ready .any ops d,Nat.blt i ops.size,(ops.getD i default).guard)=([i],true,none)):wpAny Tryz.prog .any ops Q (fuel + 1) d (Fr n E) u:=by
 have K2:=K.freshT hu (Ke (fun k=>f.heap.size≤k∧k < u.heap.size) es) (fun x hx=>(e x hx).keep (Nat.le_refl _) fun g hg hl=>⟨⟨hg,hl⟩,rfl⟩) (fun _ q=>q)
 have v:Wk w0 u M [BH w0 b ns,Bj b w,N1 A c xs,Ke (fun k=>G k∨(f.heap.size≤k∧k < u.heap.size)) (o++es)] []:=K2.merge 3 (m:=Ke (fun k=>G k∨(f.heap.size≤k∧k < u.heap.size)) (o++es)) rfl (fun x hx=>by
  rcases List.mem_append.1 hx with hx | hx
  ·exact la (.inl ((hu.H.all (hu.ix 3) _ (hu.at 3 rfl)) x hx))
  ·exact la (.inr ((e x hx).keep (Nat.le_refl _) fun g hg hl=>⟨⟨hg,hl⟩,rfl⟩))) (fun k q=>q)
 have p:∀ l:List En,(∀ x∈l,FC (fun k=>f.heap.size≤k) u x.1 x.2)→EF NU l (l.map (·.2)):=by
  intro l
  induction l with
  | nil=>intro _; trivial
  | cons a l ih=>intro h; exact ⟨Xf (h a (by simp)),ih fun x hx=>h x (by simp [hx])⟩
 have j:∀ r∈es.map (·.2),r.length=21:=fun r hr=>by
  obtain ⟨x,hx,rfl⟩:=List.mem_map.1 hr
  exact (e x hx).len
 obtain ⟨y,t,z,hr,Hn,b6⟩:=Yg (ρ:=Ax n E) v.H (v.ix 2) (v.at 2 rfl) es (es.map (·.2)) (p es e) ⟨g,0,none⟩ es.length (ID (C8 j hg) j) (ops.getD i default) (.tmp s) (.tmp x) 25 ho (by kernel_rfl) (by kernel_rfl) (by decide) hs hx j (fun r hr=>by obtain ⟨x,hx,rfl⟩:=List.mem_map.1 hr; exact (Xf (e x hx)).2.2) (by omega)
 exact Yi i hr (q y t z (v.put 2 (by simp) b6 Hn)) hc
attribute [local irreducible] A8 BL AC AD AF Ao AY AL Aq Bb Cn BR GR Dx Cm BK At Fr
noncomputable def Yb:Code:=Tryz.f6.body.getD .skip
def qu:=AA 60 [.code Yb]
def qt:=AA 60 (AC qu)
def qs:=AA 60 (AC qt)
def qr:=AA 60 (AC qs)
def Se:=AA 60 (AC qr)
def qq:=AA 60 (AL Se)
def bA:=AA 60 (AC qq)
def az:=AA 60 (AD bA)
def La:=AA 60 (AF bA)
def Sd:=AA 60 (AC (AC (AC (AC La))))
def Up:=AA 60 (Ao Sd)
def i5:=AA 60 (AD Up)
def Uo:=AA 60 (AC i5)
def Ji:=AA 60 (AF Uo)
def i4:=AA 60 (Ao Ji)
def iz:=AA 60 (AC i4)
def Un:=AA 60 (AD iz)
def PQ:=AA 60 (AF Up)
def iy:=AA 60 (Ao PQ)
def Um:=AA 60 (AC iy)
def Ul:=AA 60 (AD Um)
def Uk:=AA 60 (AF Um)
def Uj:=AA 60 (AC Uk)
def Ui:=AA 60 (Ao Uj)
def PP:=AA 60 (AD Ui)
def Iy:=AA 60 (AL PP)
def vo:=AA 60 (AF Ui)
abbrev Ef (w:World) (A:Option Addr) (n c:Nat):List Az:=[⟨w.heap.size,0,[.string ⟨⟨[]⟩⟩,.slice none 0 0],27,true⟩,⟨w.heap.size + 1,0,[.string ⟨⟨A4⟩⟩,.slice A n c],27,true⟩]
abbrev JK (w:World) (A:Option Addr) (n c gN gT:Nat):List Az:=[⟨w.heap.size,0,[.string ⟨⟨[]⟩⟩,.slice none 0 0],27,true⟩,⟨w.heap.size + 1,0,[.string ⟨⟨A4⟩⟩,.slice A n c],27,true⟩,⟨gN,0,[.string ⟨⟨[114,49]⟩⟩,.string ⟨⟨[114,50]⟩⟩,.string ⟨⟨[114,51]⟩⟩,.string ⟨⟨[114,52]⟩⟩],9,true⟩,⟨gT,0,[Av CJ,Av C1,Av DX,Av Bf].flatten,56,true⟩]
abbrev Ds (w0:World) (b:Nat) (ns:List Int) (w:World) (A:Option Addr) (c:Nat) (xs:List En) (G:Nat→Prop) (ys:List En):List Th:=[BH w0 b ns,Bj b w,N1 A c xs,Ke G ys]
abbrev LT (b H:Nat) (wl:Bool) (w:World):List (Nat×Value):=[(0,.pointer (some ⟨b,0,none⟩)),(1,AI (H:Int)),(2,.bool wl),(6,.pointer (some ⟨w.heap.size,0,none⟩)),(7,.pointer (some ⟨w.heap.size + 1,0,none⟩))]
abbrev Ss (b H:Nat) (wl:Bool) (w:World) (gN gT:Nat) (i:Int):List (Nat×Value):=[(0,.pointer (some ⟨b,0,none⟩)),(1,AI (H:Int)),(2,.bool wl),(6,.pointer (some ⟨w.heap.size,0,none⟩)),(7,.pointer (some ⟨w.heap.size + 1,0,none⟩)),(8,.slice (some ⟨gN,0,none⟩) 4 4),(9,.slice (some ⟨gT,0,none⟩) 4 4),(10,AI i)]
abbrev Hh (b H:Nat) (wl:Bool) (w:World) (gN gT:Nat) (i n v:Int):List (Nat×Value):=[(0,.pointer (some ⟨b,0,none⟩)),(1,AI (H:Int)),(2,.bool wl),(6,.pointer (some ⟨w.heap.size,0,none⟩)),(7,.pointer (some ⟨w.heap.size + 1,0,none⟩)),(8,.slice (some ⟨gN,0,none⟩) 4 4),(9,.slice (some ⟨gT,0,none⟩) 4 4),(10,AI i),(11,AI n),(12,AI v)]
abbrev JW (b H:Nat) (w:World) (i:Int):List (Nat×Value):=[(0,.pointer (some ⟨b,0,none⟩)),(1,AI (H:Int)),(6,.pointer (some ⟨w.heap.size,0,none⟩)),(7,.pointer (some ⟨w.heap.size + 1,0,none⟩)),(13,AI i)]
abbrev y8 (b:Nat) (w:World):List (Nat×Value):=[(0,.pointer (some ⟨b,0,none⟩)),(6,.pointer (some ⟨w.heap.size,0,none⟩)),(7,.pointer (some ⟨w.heap.size + 1,0,none⟩))]
abbrev GK (b:Nat) (w:World) (i:Int):List (Nat×Value):=[(0,.pointer (some ⟨b,0,none⟩)),(6,.pointer (some ⟨w.heap.size,0,none⟩)),(7,.pointer (some ⟨w.heap.size + 1,0,none⟩)),(14,AI i)]
section
variable {R:Ending→World→Prop} {b:Nat} {ns:List Int} {H:Nat} {wl:Bool} {w w0 w1:World} {A:Option Addr} {c:Nat} {xs ys:List En} {G:Nat→Prop} {E:Nat→Value}
theorem ACG (h0:w0.heap.size=b) (hl:xs.length≤100) (K:Wk w0 w1 (Ef w A xs.length c) (Ds w0 b ns w A c xs G ys) []) (hk:∀ t s (es:List En) (G':Nat→Prop) (E:Nat→Value) w',(fun ds=>∃ a f,ds=[CV [119] CJ 20454 a,CV [115] Bf 20454 f]∧Et a∧Et f) (es.map (·.1))→es.length=2→Wk w0 w' (Ef w t (xs++es).length s) (Ds w0 b ns w t s (xs++es) G' (ys++es)) []→At Tryz.prog 6 R (AL Se) (Fr 168 (BC E (LT b H wl w))) w'):At Tryz.prog 6 R Se (Fr 168 (BC E (LT b H wl w))) w1:=by
 have hb:b < w1.heap.size:=(K.tapeOk h0 0 rfl).lt
 refine Ee K h0 0 rfl [0,1,2,3,4,5,6,7,8] (Ef w A xs.length c) [(1,1,1)] [(3,fun v _=>v=.agg ⟨Av CJ⟩),(4,F8 w1.heap.size (fun d=>∃ es,d=CV [119] CJ 20454 es∧Et es)),(6,fun v _=>v=.agg ⟨Av Bf⟩),(7,F8 w1.heap.size (fun d=>∃ es,d=CV [115] Bf 20454 es∧Et es)),(8,GE w1.heap.size 2 (fun ds=>∃ a f,ds=[CV [119] CJ 20454 a,CV [115] Bf 20454 f]∧Et a∧Et f))] 3 (fun u hu=>hu.G) (fun p q=>?_) (fun p q X u hu i hf=>?_) fun X u hu i hf=>?_
 ·simp only [List.mem_cons,List.not_mem_nil,or_false] at q
  rcases q with rfl | rfl | rfl | rfl | rfl
  ·exact fun _ _ _ _ h=>h
  ·exact F8.but hb
  ·exact fun _ _ _ _ h=>h
  ·exact F8.but hb
  ·exact GE.but (k:=2) (Q:=fun ds=>∃ a f,ds=[CV [119] CJ 20454 a,CV [115] Bf 20454 f]∧Et a∧Et f) hb
 ·have r:=hu.tapeOk h0 0 rfl
  simp only [List.mem_cons,List.not_mem_nil,or_false] at q
  rcases q with rfl | rfl | rfl | rfl | rfl
  ·exact Bn (xs:=[]) (args:=[]) (M9 r (GB u)) rfl
  ·refine Bn (g:=20) (xs:=[.tmp 31,.const (.string ⟨⟨[119]⟩⟩),.tmp 32,.const (AI 20454)]) (args:=[.pointer (some ⟨b,0,none⟩),.string ⟨⟨[119]⟩⟩,X 3,AI 20454]) ?_ rfl
   rw [show X 3=.agg ⟨Av CJ⟩ from hf 3 (by kernel_rfl) rfl]
   exact (VN b ns [119] CJ 20454 u r).mono fun e w' hh=>WB i.size hh
  ·exact Bn (xs:=[]) (args:=[]) (M9 r (Gn u)) rfl
  ·refine Bn (g:=20) (xs:=[.tmp 34,.const (.string ⟨⟨[115]⟩⟩),.tmp 35,.const (AI 20454)]) (args:=[.pointer (some ⟨b,0,none⟩),.string ⟨⟨[115]⟩⟩,X 6,AI 20454]) ?_ rfl
   rw [show X 6=.agg ⟨Av Bf⟩ from hf 6 (by kernel_rfl) rfl]
   exact (VN b ns [115] Bf 20454 u r).mono fun e w' hh=>WB i.size hh
  ·obtain ⟨d,A1,c1,A2,c2,a,⟨s1,rfl,q1⟩,d1⟩:F8 w1.heap.size (fun d=>∃ es,d=CV [119] CJ 20454 es∧Et es) (X 4) u:=hf 4 (by kernel_rfl) rfl
   obtain ⟨d',n,l,m,j,b0,⟨y,rfl,q2⟩,c0⟩:F8 w1.heap.size (fun d=>∃ es,d=CV [115] Bf 20454 es∧Et es) (X 7) u:=hf 7 (by kernel_rfl) rfl
   exact AM.over [(33,.agg ⟨Be (CV [119] CJ 20454 s1) A1 c1 A2 c2⟩),(36,.agg ⟨Be (CV [115] Bf 20454 y) n l m j⟩)] ⟨Eq.trans (b:=X 4) (by kernel_rfl) a,Eq.trans (b:=X 7) (by kernel_rfl) b0,trivial⟩ (HE (fun z=>.slice (some ⟨z,0,none⟩) 2 2) (Be (CV [119] CJ 20454 s1) A1 c1 A2 c2++Be (CV [115] Bf 20454 y) n l m j) 59 (fun w' o hg=>⟨r.below o,.of_below o,[(_,Be (CV [119] CJ 20454 s1) A1 c1 A2 c2),(_,Be (CV [115] Bf 20454 y) n l m j)],u.heap.size,rfl,rfl,i.size,by simpa using hg,fun x hx=>by
     rcases List.mem_cons.1 hx with rfl | hx
     ·exact d1.keep o.size fun g hg hl=>⟨hg,o.block g hl⟩
     ·rw [List.mem_singleton.1 hx]
      exact c0.keep o.size fun g hg hl=>⟨hg,o.block g hl⟩,s1,y,rfl,q1,q2⟩) (by intro z; kernel_rfl))
 obtain ⟨es,g,a,f,_,hg,a0,hq⟩:GE w1.heap.size 2 (fun ds=>∃ a f,ds=[CV [119] CJ 20454 a,CV [115] Bf 20454 f]∧Et a∧Et f) (X 8) u:=hf 8 (by simp) rfl
 refine CI ((LT b H wl w)++[(30,.slice A xs.length c),(37,X 8)]) fun E2=>?_
 rw [a]
 refine QM K hu es g hg a0 (by omega) 9 30 37 (fun t s w6 K6=>?_) (by kernel_rfl) (by rw [f]; kernel_rfl) (by kernel_rfl) (by kernel_rfl)
 refine Dv K6 [(10,0,0),(11,1,1)] (fun _=>(Ef w t (xs++es).length s)) fun z w7 K7=>?_
 refine AU (LT b H wl w) fun E7=>?_
 exact hk t s es _ E7 w7 hq f K7
theorem ACF (o:w0.heap.size=b) (hl:xs.length≤100) (K:Wk w0 w1 (Ef w A xs.length c) (Ds w0 b ns w A c xs G ys) []) (hk:∀ j i (es:List En) (G':Nat→Prop) (E:Nat→Value) w',(fun ds=>∃ d,ds=[d]∧(fun d=>∃ es,d=CV [119] CJ 20459 es∧Et es) d) (es.map (·.1))→es.length=1→Wk w0 w' (Ef w j (xs++es).length i) (Ds w0 b ns w j i (xs++es) G' (ys++es)) []→At Tryz.prog 6 R (AL az) (Fr 168 (BC E (LT b H wl w))) w'):At Tryz.prog 6 R az (Fr 168 (BC E (LT b H wl w))) w1:=by
 have hb:b < w1.heap.size:=(K.tapeOk o 0 rfl).lt
 refine Ee K o 0 rfl [0,1,2,3,4,5] (Ef w A xs.length c) [(1,1,1)] [(3,fun v _=>v=.agg ⟨Av CJ⟩),(4,F8 w1.heap.size (fun d=>∃ es,d=CV [119] CJ 20459 es∧Et es)),(5,GE w1.heap.size 1 (fun ds=>∃ d,ds=[d]∧(fun d=>∃ es,d=CV [119] CJ 20459 es∧Et es) d))] 3 (fun u hu=>hu.G) (fun p f=>?_) (fun p f X u hu a hf=>?_) fun X u hu a hf=>?_
 ·simp only [List.mem_cons,List.not_mem_nil,or_false] at f
  rcases f with rfl | rfl | rfl
  ·exact fun _ _ _ _ h=>h
  ·exact F8.but hb
  ·exact GE.but (k:=1) (Q:=fun ds=>∃ d,ds=[d]∧(fun d=>∃ es,d=CV [119] CJ 20459 es∧Et es) d) hb
 ·have n:=hu.tapeOk o 0 rfl
  simp only [List.mem_cons,List.not_mem_nil,or_false] at f
  rcases f with rfl | rfl | rfl
  ·exact Bn (xs:=[]) (args:=[]) (M9 n (GB u)) rfl
  ·refine Bn (g:=20) (xs:=[.tmp 45,.const (.string ⟨⟨[119]⟩⟩),.tmp 46,.const (AI 20459)]) (args:=[.pointer (some ⟨b,0,none⟩),.string ⟨⟨[119]⟩⟩,X 3,AI 20459]) ?_ rfl
   rw [show X 3=.agg ⟨Av CJ⟩ from hf 3 (by kernel_rfl) rfl]
   exact (VN b ns [119] CJ 20459 u n).mono fun e w' hh=>WB a.size hh
  ·obtain ⟨d,y,s,t,r,q,p1,d1⟩:F8 w1.heap.size (fun d=>∃ es,d=CV [119] CJ 20459 es∧Et es) (X 4) u:=hf 4 (by kernel_rfl) rfl
   exact AM.over [(47,.agg ⟨Be d y s t r⟩)] ⟨Eq.trans (b:=X 4) (by kernel_rfl) q,trivial⟩ (HE (fun z=>.slice (some ⟨z,0,none⟩) 1 1) (Be d y s t r) 59 (fun w' l hg=>⟨n.below l,.of_below l,[(d,Be d y s t r)],u.heap.size,rfl,rfl,a.size,by simpa using hg,fun x hx=>by rw [List.mem_singleton.1 hx]; exact d1.keep l.size fun g hg hl=>⟨hg,l.block g hl⟩,d,rfl,p1⟩) (by intro z; kernel_rfl))
 obtain ⟨es,g,q,e2,_,hg,m,hq⟩:GE w1.heap.size 1 (fun ds=>∃ d,ds=[d]∧(fun d=>∃ es,d=CV [119] CJ 20459 es∧Et es) d) (X 5) u:=hf 5 (by simp) rfl
 refine CI ((LT b H wl w)++[(44,.slice A xs.length c),(48,X 5)]) fun E2=>?_
 rw [q]
 refine QM K hu es g hg m (by omega) 6 44 48 (fun j i w6 K6=>?_) (by kernel_rfl) (by rw [e2]; kernel_rfl) (by kernel_rfl) (by kernel_rfl)
 refine Dv K6 [(7,0,0),(8,1,1)] (fun _=>(Ef w j (xs++es).length i)) fun z w7 K7=>?_
 refine AU (LT b H wl w) fun E7=>?_
 exact hk j i es _ E7 w7 hq e2 K7
theorem ya:∀ (i:Nat),i < 4→([.string ⟨⟨[114,49]⟩⟩,.string ⟨⟨[114,50]⟩⟩,.string ⟨⟨[114,51]⟩⟩,.string ⟨⟨[114,52]⟩⟩]:List Value)[i]?=some (.string ⟨⟨Vf.getD i []⟩⟩)
 | 0,_ | 1,_ | 2,_ | 3,_=>rfl
 | _ + 4,h=>absurd h (by omega)
theorem yb:∀ (i:Nat),i < 2→([.string ⟨⟨[97]⟩⟩,.string ⟨⟨[98]⟩⟩]:List Value)[i]?=some (.string ⟨⟨Vg.getD i []⟩⟩)
 | 0,_ | 1,_=>rfl
 | _ + 2,h=>absurd h (by omega)
theorem S4:∀ (i:Nat),i < 4→Gg[i]?=some (Gg.getD i Bf)∧Gg.getD i Bf∈JJ
 | 0,_ | 1,_ | 2,_ | 3,_=>⟨rfl,by decide⟩
 | _ + 4,h=>absurd h (by omega)
theorem Xa {b:Nat} {ns:List Int} {n:Int} {H:Nat} (d:0 < H) (c:H≤1000) {t:Ty} (e:t∈JJ) {u:World} (a:BW b ns u):Calls Tryz.prog 16 ([.pointer (some ⟨b,0,none⟩),.agg ⟨Av t⟩,AI (H:Int),AI n]:List Value).toArray u (KI b ns n H t u):=by
 cases H with
 | zero=>exact absurd d (by omega)
 | succ h=>exact sm b ns n h t e (by omega) u a
theorem y5 {i v:Nat} {n:Int} {f a:Nat} (hi:i < 4) (hH:0 < H) (b0:H≤1000) (h0:w0.heap.size=b) (hl:xs.length≤100) (K:Wk w0 w1 (JK w A xs.length c f a) (Ds w0 b ns w A c xs G ys) []) (hk:∀ A' y (es:List En) (G':Nat→Prop) (E:Nat→Value) w',(fun ds=>∃ d,ds=[d]∧(fun d=>∃ x,d=Hc i (IntKind.i64.wrap (20454 + IntKind.i64.wrap (5 * (v:Int)))) x∧DK n H (Gg.getD i Bf) x) d) (es.map (·.1))→es.length=1→Wk w0 w' (JK w A' (xs++es).length y f a) (Ds w0 b ns w A' y (xs++es) G' (ys++es)) []→At Tryz.prog 6 R (AL Un) (Fr 168 (BC E (Hh b H wl w f a (i:Int) n (v:Int)))) w'):At Tryz.prog 6 R Un (Fr 168 (BC E (Hh b H wl w f a (i:Int) n (v:Int)))) w1:=by
 have hb:b < w1.heap.size:=(K.tapeOk h0 0 rfl).lt
 refine Ee K h0 0 rfl [0,1,2,3,4,5,6,7,8,9,10,11,12,13,14,15,16,17,18,19,20,21,22] (JK w A xs.length c f a) [(1,1,1)] [(4,fun v _=>v=.pointer (some ⟨f,0 + i * 1,none⟩)),(5,fun v _=>v=.string ⟨⟨Vf.getD i []⟩⟩),(8,fun v _=>v=.pointer (some ⟨a,0 + i * 4,none⟩)),(9,fun v _=>v=.agg ⟨Av (Gg.getD i Bf)⟩),(16,fun v _=>v=.pointer (some ⟨a,0 + i * 4,none⟩)),(17,fun v _=>v=.agg ⟨Av (Gg.getD i Bf)⟩),(20,Bv w1.heap.size n H (Gg.getD i Bf)),(21,F8 w1.heap.size (fun d=>∃ x,d=Hc i (IntKind.i64.wrap (20454 + IntKind.i64.wrap (5 * (v:Int)))) x∧DK n H (Gg.getD i Bf) x)),(22,GE w1.heap.size 1 (fun ds=>∃ d,ds=[d]∧(fun d=>∃ x,d=Hc i (IntKind.i64.wrap (20454 + IntKind.i64.wrap (5 * (v:Int)))) x∧DK n H (Gg.getD i Bf) x) d))] 3 (fun u hu=>hu.G) (fun p s=>?_) (fun p s X u hu l hf=>?_) fun X u hu l hf=>?_
 ·simp only [List.mem_cons,List.not_mem_nil,or_false] at s
  rcases s with rfl | rfl | rfl | rfl | rfl | rfl | rfl | rfl | rfl
  ·exact fun _ _ _ _ h=>h
  ·exact fun _ _ _ _ h=>h
  ·exact fun _ _ _ _ h=>h
  ·exact fun _ _ _ _ h=>h
  ·exact fun _ _ _ _ h=>h
  ·exact fun _ _ _ _ h=>h
  ·exact Bv.but hb
  ·exact F8.but hb
  ·exact GE.but (k:=1) (Q:=fun ds=>∃ d,ds=[d]∧(fun d=>∃ x,d=Hc i (IntKind.i64.wrap (20454 + IntKind.i64.wrap (5 * (v:Int)))) x∧DK n H (Gg.getD i Bf) x) d) hb
 ·have j:=hu.tapeOk h0 0 rfl
  simp only [List.mem_cons,List.not_mem_nil,or_false] at s
  rcases s with rfl | rfl | rfl | rfl | rfl | rfl | rfl | rfl | rfl
  ·exact AM.value (BZ (g:=f) (off:=0) (sz:=1) (k:=i) (len:=4) (cap:=4) 65 (.tmp 78) (.tmp 79) hi Tryz.underlying65) ⟨j,CE.refl b u,rfl⟩
  ·refine AM.loadOne 9 (.tmp 80) (by kernel_rfl) (Eq.trans (b:=X 4) (by kernel_rfl) (hf 4 (by kernel_rfl) rfl)) (v:=.string ⟨⟨Vf.getD i []⟩⟩) ?_ (Tryz.isAgg9 u) ⟨j,CE.refl b u,rfl⟩
   have:=OQ (hu.ent 2 rfl) i _ (ya i hi)
   simpa using this
  ·exact AM.value (BZ (g:=a) (off:=0) (sz:=4) (k:=i) (len:=4) (cap:=4) 66 (.tmp 82) (.tmp 83) hi Tryz.underlying66) ⟨j,CE.refl b u,rfl⟩
  ·obtain ⟨g',off,h1,_,h3⟩:=CU.all (show CU 4 (fun q:Ty=>Av q) u (some ⟨a,0,none⟩) Gg from C8 (fun r hr=>by obtain ⟨e,_,rfl⟩:=List.mem_map.1 hr; rfl) (hu.ent 3 rfl)) (by decide)
   obtain ⟨rfl,rfl⟩:a=g'∧0=off:=by simpa using h1
   exact AM.loadMid 56 (.tmp 84) (by kernel_rfl) (Eq.trans (b:=X 8) (by kernel_rfl) (hf 8 (by kernel_rfl) rfl)) (Av (Gg.getD i Bf)) (h3 i _ (S4 i hi).1) (by kernel_rfl) (by kernel_rfl) ⟨j,CE.refl b u,rfl⟩
  ·exact AM.value (BZ (g:=a) (off:=0) (sz:=4) (k:=i) (len:=4) (cap:=4) 66 (.tmp 90) (.tmp 91) hi Tryz.underlying66) ⟨j,CE.refl b u,rfl⟩
  ·obtain ⟨g',off,h1,_,h3⟩:=CU.all (show CU 4 (fun q:Ty=>Av q) u (some ⟨a,0,none⟩) Gg from C8 (fun r hr=>by obtain ⟨e,_,rfl⟩:=List.mem_map.1 hr; rfl) (hu.ent 3 rfl)) (by decide)
   obtain ⟨rfl,rfl⟩:a=g'∧0=off:=by simpa using h1
   exact AM.loadMid 56 (.tmp 92) (by kernel_rfl) (Eq.trans (b:=X 16) (by kernel_rfl) (hf 16 (by kernel_rfl) rfl)) (Av (Gg.getD i Bf)) (h3 i _ (S4 i hi).1) (by kernel_rfl) (by kernel_rfl) ⟨j,CE.refl b u,rfl⟩
  ·refine Bn (g:=16) (xs:=[.tmp 89,.tmp 93,.tmp 94,.tmp 95]) (args:=[.pointer (some ⟨b,0,none⟩),X 17,AI (H:Int),AI n]) ?_ rfl
   rw [show X 17=.agg ⟨Av (Gg.getD i Bf)⟩ from hf 17 (by kernel_rfl) rfl]
   exact (Xa hH b0 (S4 i hi).2 j).mono fun e w' hh=>Dr l.size hh
  ·obtain ⟨x,o,m,t,g1,t1⟩:Bv w1.heap.size n H (Gg.getD i Bf) (X 20) u:=hf 20 (by kernel_rfl) rfl
   exact AM.over [(81,.string ⟨⟨Vf.getD i []⟩⟩),(85,.agg ⟨Av (Gg.getD i Bf)⟩),(96,.agg ⟨AW x o m⟩)] ⟨Eq.trans (b:=X 5) (by kernel_rfl) (hf 5 (by kernel_rfl) rfl),Eq.trans (b:=X 9) (by kernel_rfl) (hf 9 (by kernel_rfl) rfl),Eq.trans (b:=X 20) (by kernel_rfl) t,trivial⟩ (AM.reads ⟨0,[],(0,0),[]⟩ (fun e he=>by cases he) (.agg ⟨Be (Hc i (IntKind.i64.wrap (20454 + IntKind.i64.wrap (5 * (v:Int)))) x) none 0 o m⟩) ⟨j,CE.refl b u,Hc i (IntKind.i64.wrap (20454 + IntKind.i64.wrap (5 * (v:Int)))) x,none,0,o,m,rfl,⟨x,rfl,g1⟩,Qt rfl t1⟩)
  ·obtain ⟨d,o,m,A2,c2,t,p1,d1⟩:F8 w1.heap.size (fun d=>∃ x,d=Hc i (IntKind.i64.wrap (20454 + IntKind.i64.wrap (5 * (v:Int)))) x∧DK n H (Gg.getD i Bf) x) (X 21) u:=hf 21 (by kernel_rfl) rfl
   exact AM.over [(97,.agg ⟨Be d o m A2 c2⟩)] ⟨Eq.trans (b:=X 21) (by kernel_rfl) t,trivial⟩ (HE (fun z=>.slice (some ⟨z,0,none⟩) 1 1) (Be d o m A2 c2) 59 (fun w' hB hg=>⟨j.below hB,.of_below hB,[(d,Be d o m A2 c2)],u.heap.size,rfl,rfl,l.size,by simpa using hg,fun x hx=>by rw [List.mem_singleton.1 hx]; exact d1.keep hB.size fun g hg hl=>⟨hg,hB.block g hl⟩,d,rfl,p1⟩) (by intro z; kernel_rfl))
 obtain ⟨es,g,t,e2,_,hg,a0,hq⟩:GE w1.heap.size 1 (fun ds=>∃ d,ds=[d]∧(fun d=>∃ x,d=Hc i (IntKind.i64.wrap (20454 + IntKind.i64.wrap (5 * (v:Int)))) x∧DK n H (Gg.getD i Bf) x) d) (X 22) u:=hf 22 (by simp) rfl
 refine CI ((Hh b H wl w f a (i:Int) n (v:Int))++[(77,.slice A xs.length c),(98,X 22)]) fun E2=>?_
 rw [t]
 refine QM K hu es g hg a0 (by omega) 23 77 98 (fun A' y w6 K6=>?_) (by kernel_rfl) (by rw [e2]; kernel_rfl) (by kernel_rfl) (by kernel_rfl)
 refine Dv K6 [(24,0,0),(25,1,1)] (fun _=>(JK w A' (xs++es).length y f a)) fun z w7 K7=>?_
 refine AU (Hh b H wl w f a (i:Int) n (v:Int)) fun E7=>?_
 exact hk A' y es _ E7 w7 hq e2 K7
theorem y4 {i:Nat} {gN gT:Nat} (hi:i < 2) (hH:0 < H) (hH2:H≤1000) (h0:w0.heap.size=b) (hl:xs.length≤100) (K:Wk w0 w1 (JK w A xs.length c gN gT) (Ds w0 b ns w A c xs G ys) []) (hk:∀ A' c' (es:List En) (G':Nat→Prop) (E:Nat→Value) w',(fun ds=>∃ d,ds=[d]∧(fun d=>∃ x mode q,d=Jn i x mode q∧0≤mode∧mode≤6∧q∈Jj∧DK (IntKind.i64.wrap (4 + (i:Int))) H C1 x) d) (es.map (·.1))→es.length=1→Wk w0 w' (JK w A' (xs++es).length c' gN gT) (Ds w0 b ns w A' c' (xs++es) G' (ys++es)) []→At Tryz.prog 6 R (AL Ul) (Fr 168 (BC E (JW b H w (i:Int)))) w'):At Tryz.prog 6 R Ul (Fr 168 (BC E (JW b H w (i:Int)))) w1:=by
 have hb:b < w1.heap.size:=(K.tapeOk h0 0 rfl).lt
 refine Ee K h0 0 rfl [0,1,2,3,4,5,6,7,8,9,10,11,12,13,14,15,16,17,18,19,20,21,22,23] (JK w A xs.length c gN gT) [(1,1,1)] [(2,FF b [.string ⟨⟨[97]⟩⟩,.string ⟨⟨[98]⟩⟩] 9 2),(4,fun v u=>∃ g,v=.pointer (some ⟨g,0 + i * 1,none⟩)∧g≠b∧Az.good u ⟨g,0,[.string ⟨⟨[97]⟩⟩,.string ⟨⟨[98]⟩⟩],9,true⟩),(5,fun v _=>v=.string ⟨⟨Vg.getD i []⟩⟩),(7,fun v _=>v=.agg ⟨Av C1⟩),(11,Bv w1.heap.size (IntKind.i64.wrap (4 + (i:Int))) H C1),(13,JD 7),(17,FF b [AI 1,AI 100,AI 1,AI 20,AI 1,AI 1] 41 3),(19,JD 3),(20,fun v u=>∃ g k,v=.pointer (some ⟨g,0 + k * 2,none⟩)∧k < 3∧g≠b∧Az.good u ⟨g,0,[AI 1,AI 100,AI 1,AI 20,AI 1,AI 1],41,true⟩),(21,fun v _=>∃ q∈Jj,v=.agg ⟨[AI q.1,AI q.2]⟩),(22,F8 w1.heap.size (fun d=>∃ x mode q,d=Jn i x mode q∧0≤mode∧mode≤6∧q∈Jj∧DK (IntKind.i64.wrap (4 + (i:Int))) H C1 x)),(23,GE w1.heap.size 1 (fun ds=>∃ d,ds=[d]∧(fun d=>∃ x mode q,d=Jn i x mode q∧0≤mode∧mode≤6∧q∈Jj∧DK (IntKind.i64.wrap (4 + (i:Int))) H C1 x) d))] 3 (fun u hu=>hu.G) (fun p hp=>?_) (fun p hp X u hu hbu hf=>?_) fun X u hu hbu hf=>?_
 ·simp only [List.mem_cons,List.not_mem_nil,or_false] at hp
  rcases hp with rfl | rfl | rfl | rfl | rfl | rfl | rfl | rfl | rfl | rfl | rfl | rfl
  ·exact FF.but
  ·exact fun v u u' he ⟨g,h1,h2,h3⟩=>⟨g,h1,h2,F6 h3 he.size (he.block g h3.1 h2)⟩
  ·exact fun _ _ _ _ h=>h
  ·exact fun _ _ _ _ h=>h
  ·exact Bv.but hb
  ·exact fun _ _ _ _ h=>h
  ·exact FF.but
  ·exact fun _ _ _ _ h=>h
  ·exact fun v u u' he ⟨g,k,a1,a2,a3,a4⟩=>⟨g,k,a1,a2,a3,F6 a4 he.size (he.block g a4.1 a3)⟩
  ·exact fun _ _ _ _ h=>h
  ·exact F8.but hb
  ·exact GE.but (k:=1) (Q:=fun ds=>∃ d,ds=[d]∧(fun d=>∃ x mode q,d=Jn i x mode q∧0≤mode∧mode≤6∧q∈Jj∧DK (IntKind.i64.wrap (4 + (i:Int))) H C1 x) d) hb
 ·have hT:=hu.tapeOk h0 0 rfl
  simp only [List.mem_cons,List.not_mem_nil,or_false] at hp
  rcases hp with rfl | rfl | rfl | rfl | rfl | rfl | rfl | rfl | rfl | rfl | rfl | rfl
  ·exact HE (fun z=>.slice (some ⟨z,0,none⟩) 2 2) [.string ⟨⟨[97]⟩⟩,.string ⟨⟨[98]⟩⟩] 9 (fun w' hB hg=>⟨hT.below hB,.of_below hB,u.heap.size,rfl,Nat.ne_of_gt hT.lt,hg⟩) (by intro z; kernel_rfl)
  ·obtain ⟨g,e1,e2,e3⟩:FF b [.string ⟨⟨[97]⟩⟩,.string ⟨⟨[98]⟩⟩] 9 2 (X 2) u:=hf 2 (by kernel_rfl) rfl
   exact AM.value (BZ (g:=g) (off:=0) (sz:=1) (k:=i) (len:=2) (cap:=2) 65 (.tmp 109) (.tmp 110) (hx:=(Eq.trans (b:=X 2) (by kernel_rfl) e1)) hi Tryz.underlying65) ⟨hT,CE.refl b u,g,rfl,e2,e3⟩
  ·obtain ⟨g,e1,e2,e3⟩:∃ g,X 4=.pointer (some ⟨g,0 + i * 1,none⟩)∧g≠b∧Az.good u ⟨g,0,[.string ⟨⟨[97]⟩⟩,.string ⟨⟨[98]⟩⟩],9,true⟩:=hf 4 (by kernel_rfl) rfl
   refine AM.loadOne 9 (.tmp 111) (by kernel_rfl) (Eq.trans (b:=X 4) (by kernel_rfl) e1) (v:=.string ⟨⟨Vg.getD i []⟩⟩) ?_ (Tryz.isAgg9 u) ⟨hT,CE.refl b u,rfl⟩
   have:=OQ e3 i _ (yb i hi)
   simpa using this
  ·exact Bn (xs:=[]) (args:=[]) (M9 hT (GC u)) rfl
  ·refine Bn (g:=16) (xs:=[.tmp 113,.tmp 114,.tmp 115,.tmp 117]) (args:=[.pointer (some ⟨b,0,none⟩),X 7,AI (H:Int),AI (IntKind.i64.wrap (4 + (i:Int)))]) ?_ rfl
   rw [show X 7=.agg ⟨Av C1⟩ from hf 7 (by kernel_rfl) rfl]
   exact (Xa hH hH2 (by decide) hT).mono fun e w' hh=>Dr hbu.size hh
  ·exact Bn (xs:=[.tmp 119,.const (AI 7)]) (args:=[.pointer (some ⟨b,0,none⟩),AI 7]) ((BM b ns 7 u hT (by omega) (by omega)).mono fun e w' ⟨y,q1,q2,q3,q4⟩=>⟨_,q2,q3,q4,y,by omega,rfl⟩) rfl
  ·exact HE (fun z=>.slice (some ⟨z,0,none⟩) 3 3) [AI 1,AI 100,AI 1,AI 20,AI 1,AI 1] 41 (fun w' hB hg=>⟨hT.below hB,.of_below hB,u.heap.size,rfl,Nat.ne_of_gt hT.lt,hg⟩) (by intro z; kernel_rfl)
  ·exact Bn (xs:=[.tmp 125,.const (AI 3)]) (args:=[.pointer (some ⟨b,0,none⟩),AI 3]) ((BM b ns 3 u hT (by omega) (by omega)).mono fun e w' ⟨y,q1,q2,q3,q4⟩=>⟨_,q2,q3,q4,y,by omega,rfl⟩) rfl
  ·obtain ⟨g,e1,e2,e3⟩:FF b [AI 1,AI 100,AI 1,AI 20,AI 1,AI 1] 41 3 (X 17) u:=hf 17 (by kernel_rfl) rfl
   obtain ⟨k,e4,e5⟩:JD 3 (X 19) u:=hf 19 (by kernel_rfl) rfl
   exact AM.value (BZ (g:=g) (off:=0) (sz:=2) (k:=k) (len:=3) (cap:=3) 67 (.tmp 124) (.tmp 126) (hx:=(Eq.trans (b:=X 17) (by kernel_rfl) e1)) (hi:=(Eq.trans (b:=X 19) (by kernel_rfl) e5)) e4 Tryz.underlying67) ⟨hT,CE.refl b u,g,k,rfl,e4,e2,e3⟩
  ·obtain ⟨g,k,e1,e2,e3,e4⟩:∃ g k,X 20=.pointer (some ⟨g,0 + k * 2,none⟩)∧k < 3∧g≠b∧Az.good u ⟨g,0,[AI 1,AI 100,AI 1,AI 20,AI 1,AI 1],41,true⟩:=hf 20 (by kernel_rfl) rfl
   obtain ⟨q,hq⟩:∃ q,Jj[k]?=some q:=⟨_,List.getElem?_eq_getElem e2⟩
   obtain ⟨g',off,h1,_,h3⟩:=CU.all (show CU 2 (fun q:Int×Int=>[AI q.1,AI q.2]) u (some ⟨g,0,none⟩) Jj from C8 (fun r hr=>by obtain ⟨e,_,rfl⟩:=List.mem_map.1 hr; rfl) e4) (by decide)
   obtain ⟨rfl,rfl⟩:g=g'∧0=off:=by simpa using h1
   exact AM.loadMid 41 (.tmp 127) (by kernel_rfl) (Eq.trans (b:=X 20) (by kernel_rfl) e1) [AI q.1,AI q.2] (h3 k q hq) (by kernel_rfl) (by kernel_rfl) ⟨hT,CE.refl b u,q,List.mem_of_getElem? hq,rfl⟩
  ·obtain ⟨x,A1,c1,e1,g1,t1⟩:Bv w1.heap.size (IntKind.i64.wrap (4 + (i:Int))) H C1 (X 11) u:=hf 11 (by kernel_rfl) rfl
   obtain ⟨k,hk7,e2⟩:JD 7 (X 13) u:=hf 13 (by kernel_rfl) rfl
   obtain ⟨q,hq,e3⟩:∃ q∈Jj,X 21=.agg ⟨[AI q.1,AI q.2]⟩:=hf 21 (by kernel_rfl) rfl
   exact AM.over [(112,.string ⟨⟨Vg.getD i []⟩⟩),(118,.agg ⟨AW x A1 c1⟩),(120,AI (k:Int)),(128,.agg ⟨[AI q.1,AI q.2]⟩)] ⟨Eq.trans (b:=X 5) (by kernel_rfl) (hf 5 (by kernel_rfl) rfl),Eq.trans (b:=X 11) (by kernel_rfl) e1,Eq.trans (b:=X 13) (by kernel_rfl) e2,Eq.trans (b:=X 21) (by kernel_rfl) e3,trivial⟩ (AM.reads ⟨0,[],(0,0),[]⟩ (fun e he=>by cases he) (.agg ⟨Be (Jn i x (k:Int) q) none 0 A1 c1⟩) ⟨hT,CE.refl b u,Jn i x (k:Int) q,none,0,A1,c1,rfl,⟨x,(k:Int),q,rfl,by omega,by omega,hq,g1⟩,Qt rfl t1⟩)
  ·obtain ⟨d,A1,c1,A2,c2,e1,p1,d1⟩:F8 w1.heap.size (fun d=>∃ x mode q,d=Jn i x mode q∧0≤mode∧mode≤6∧q∈Jj∧DK (IntKind.i64.wrap (4 + (i:Int))) H C1 x) (X 22) u:=hf 22 (by kernel_rfl) rfl
   exact AM.over [(129,.agg ⟨Be d A1 c1 A2 c2⟩)] ⟨Eq.trans (b:=X 22) (by kernel_rfl) e1,trivial⟩ (HE (fun z=>.slice (some ⟨z,0,none⟩) 1 1) (Be d A1 c1 A2 c2) 59 (fun w' hB hg=>⟨hT.below hB,.of_below hB,[(d,Be d A1 c1 A2 c2)],u.heap.size,rfl,rfl,hbu.size,by simpa using hg,fun x hx=>by rw [List.mem_singleton.1 hx]; exact d1.keep hB.size fun g hg hl=>⟨hg,hB.block g hl⟩,d,rfl,p1⟩) (by intro z; kernel_rfl))
 obtain ⟨es,g,e1,e2,_,hg,hes,hq⟩:GE w1.heap.size 1 (fun ds=>∃ d,ds=[d]∧(fun d=>∃ x mode q,d=Jn i x mode q∧0≤mode∧mode≤6∧q∈Jj∧DK (IntKind.i64.wrap (4 + (i:Int))) H C1 x) d) (X 23) u:=hf 23 (by simp) rfl
 refine CI ((JW b H w (i:Int))++[(108,.slice A xs.length c),(130,X 23)]) fun E2=>?_
 rw [e1]
 refine QM K hu es g hg hes (by omega) 24 108 130 (fun A' c' w6 K6=>?_) (by kernel_rfl) (by rw [e2]; kernel_rfl) (by kernel_rfl) (by kernel_rfl)
 refine Dv K6 [(25,0,0),(26,1,1)] (fun _=>(JK w A' (xs++es).length c' gN gT)) fun z w7 K7=>?_
 refine AU (JW b H w (i:Int)) fun E7=>?_
 exact hk A' c' es _ E7 w7 hq e2 K7
end
end
end Go.Proofs.YtkjbdagicjbjjaaGreat

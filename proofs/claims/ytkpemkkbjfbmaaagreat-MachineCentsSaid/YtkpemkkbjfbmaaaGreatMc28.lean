/- Contracts of functions, part 28. -/
import Derived.Test.YtkpemkkbjfbmaaaGreatMc27
import Derived.Test.YtkpemkkbjfbmaaaGreatMc21
import Derived.Test.YtkpemkkbjfbmaaaGreatMc12
set_option linter.all false
namespace Go.Proofs.YtkpemkkbjfbmaaaGreat
open List
noncomputable section
open Go.RowKit
set_option maxRecDepth 100000
set_option maxHeartbeats 1000000
def Ky (q:List UInt8):Nat:=if q=[114,49]then 1 else if q=[114,50]then 2 else if q=[114,51]then 3 else if q=[114,52]then 4 else if q=[97]then 4 else if q=[98]then 5 else 0
theorem AGF {n:Int} {q:List UInt8} (f:1<=n) (h:q∈LD n):(Ky q:Int)<n:=by
 have e:Ky [102]=0/\Ky [104]=0/\Ky [103]=0/\Ky [114,49]=1/\Ky [114,50]=2/\Ky [114,51]=3/\Ky [114,52]=4/\Ky [97]=4:=by decide
 obtain⟨m,k,a3,a4,a5,j,i,g⟩:=e;have hc:∀ {b:Bool} {l:List (List UInt8)},q∈cond b l []->b=true/\q∈l:=λ{b l} d=>by
  cases b
  ·cases d
  exact⟨rfl,d⟩
 unfold LD at h;rcases mem_append.1 h with h | h
 ·rcases mem_append.1 h with h | h
  ·rcases mem_append.1 h with h | h
   ·rcases mem_append.1 h with h | h
    ·simp only[mem_cons,not_mem_nil,or_false]at h;rcases h with rfl | rfl | rfl<;>omega
    obtain⟨c,a⟩:=hc h;have:=of_decide_eq_true c;rw[mem_singleton.1 a];omega
   obtain⟨c,a⟩:=hc h;have:=of_decide_eq_true c;rw[mem_singleton.1 a];omega
  obtain⟨c,a⟩:=hc h;have:=of_decide_eq_true c;rw[mem_singleton.1 a];omega
 obtain⟨c,a⟩:=hc h;have:=of_decide_eq_true c;simp only[mem_cons,not_mem_nil,or_false]at a;rcases a with rfl | rfl<;>omega
def kdN (q:List UInt8):Int:=if q=[104]\/q=[103]\/q=[102]then 1 else if q=[119]\/q=[115]then 2 else if q=[97]\/q=[98]then 4 else if q=[103,114,111,115,115]\/q=[116,105,109,101]then 5 else 3
theorem Pl {d:Df} (h:IZ 3 false d):d.kind=kdN d.name/\(d.kind=1\/d.kind=5->d.frm=0)/\(d.kind=4->d.frm=20454)/\(d.kind=2\/d.kind=3->d.frm=20454\/d.frm=20459)/\(d.kind=2\/d.kind=3->∃t,t=I1 d/\t=(if d.name=[119]then CH else if d.name=[115]then BT else if d.name=[114,49]then CH else if d.name=[114,50]then Cb else if d.name=[114,51]then DB else BT)):=by
 cases h with
 | ins _ hd=>
  simp only[Fa,mem_cons,not_mem_nil,or_false]at hd;rcases hd with rfl | rfl | rfl | rfl | rfl<;>exact⟨by decide,λ_=>rfl,(λh=>absurd h (by decide)),(λh=>absurd h (by decide)),(λh=>absurd h (by decide))⟩
 | sc nm t frm es h hf he=>
  rcases h with⟨rfl,rfl⟩ | ⟨rfl,rfl⟩<;>exact⟨rfl,(λh=>absurd (show(2:Int)=1\/(2:Int)=5 from h) (by decide)),(λh=>absurd (show(2:Int)=4 from h) (by decide)),λ_=>hf,λ_=>⟨_,rfl,rfl⟩⟩
 | rule i frm x n hi hf hn hx=>
  obtain rfl | rfl | rfl | rfl:i=0\/i=1\/i=2\/i=3:=by omega
  all_goals exact⟨rfl,(λh=>absurd (show(3:Int)=1\/(3:Int)=5 from h) (by decide)),(λh=>absurd (show(3:Int)=4 from h) (by decide)),λ_=>hf,λ_=>⟨_,rfl,rfl⟩⟩
 | pay i x mode q hi h0 h6 hq hx=>
  obtain rfl | rfl:i=0\/i=1:=by omega
  all_goals exact⟨rfl,(λh=>absurd (show(4:Int)=1\/(4:Int)=5 from h) (by decide)),λ_=>rfl,(λh=>absurd (show(4:Int)=2\/(4:Int)=3 from h) (by decide)),(λh=>absurd (show(4:Int)=2\/(4:Int)=3 from h) (by decide))⟩
theorem XM {d:Df} (h:IZ 3 false d) (hc:BM d=true):1<=Ky d.name/\∃t,DL (Ky d.name:Nat) 3 t d.body:=by
 cases h with
 | ins _ hd=>
  simp only[Fa,mem_cons,not_mem_nil,or_false]at hd;rcases hd with rfl | rfl | rfl | rfl | rfl<;>cases hc
 | sc nm t frm es h hf he=>cases hc
 | rule i frm x n hi hf hn hx=>
  obtain hn | ⟨h,_⟩:=hn
  ·subst hn;obtain rfl | rfl | rfl | rfl:i=0\/i=1\/i=2\/i=3:=by omega
   all_goals exact⟨Nat.le_of_ble_eq_true (by kernel_rfl),_,hx⟩
  cases h
 | pay i x mode q hi h0 h6 hq hx=>
  obtain rfl | rfl:i=0\/i=1:=by omega
  all_goals exact⟨Nat.le_of_ble_eq_true (by kernel_rfl),_,hx⟩
theorem ZD:∀(es:List (Int×Int×Int)) (b:Int),(∀e∈es,0<=e.1/\e.1<=12/\e.2∈G5)->es.Pairwise (λa b=>a.1<b.1)->(∀e∈es,b<e.1)->H3 es b=true
 | [],_,_,_,_=>by rw[H3]
 | e::es,b,h1,h2,h3=>by
  rw[pairwise_cons]at h2;obtain⟨g,f,d⟩:=h1 e (by simp);have hn:G5.all (λq=>ED q.1 q.2)=true:=by kernel_rfl
  have:=h3 e (by simp);rw[H3,decide_eq_false (show ¬e.1<=b by omega),decide_eq_false (show ¬ 1000000<e.1 by omega),show ED e.2.1 e.2.2=true from all_eq_true.1 hn _ d];exact ZD es e.1 (λq c=>h1 q (by simp[c])) h2.2 λq c=>h2.1 q c
theorem gK {es:List (Int×Int×Int)} (h:FZ es):Et es=true:=by unfold Et;have a:=h.len;have h2:=h.pos;rw[decide_eq_false (show ¬(es.length:Int)<1 by omega),decide_eq_false (show ¬ 64<(es.length:Int) by omega)];exact ZD es (-1) h.ent h.up λe he=>by have:=(h.ent e he).1;omega
theorem mQ {d:Df} (h:IZ 3 false d):Tk.isName d.name=true/\Ej d=true:=by
 cases h with
 | ins _ hd=>
  have b:Fa.all (λd=>Tk.isName d.name&&Ej d)=true:=by kernel_rfl
  have:=all_eq_true.1 b _ hd;rwa [Bool.and_eq_true]at this
 | sc nm t frm es h hf he=>
  have hv:=gK he;have hl:=he.pos;rcases h with⟨rfl,rfl⟩ | ⟨rfl,rfl⟩<;>rcases hf with rfl | rfl<;>exact⟨by kernel_rfl,by
   unfold Ej Ci BU;unfold C2;rw[hv]
   kernel_rfl⟩
 | rule i frm x n hi hf hn hx=>
  have a:Dc x=true:=PT hx 32 (by decide) (ZE i);obtain rfl | rfl | rfl | rfl:i=0\/i=1\/i=2\/i=3:=by omega
  all_goals rcases hf with rfl | rfl
  all_goals exact⟨by kernel_rfl,by
   unfold Ej GG
   cases x
   unfold C2;rw[a]
   kernel_rfl⟩
 | pay i x mode q hi h0 h6 hq hx=>
  have a:Dc x=true:=PT hx 32 (by decide) (by decide);simp only[KB,mem_cons,not_mem_nil,or_false]at hq;obtain rfl | rfl:i=0\/i=1:=by omega
  all_goals obtain rfl | rfl | rfl | rfl | rfl | rfl | rfl:mode=0\/mode=1\/mode=2\/mode=3\/mode=4\/mode=5\/mode=6:=by omega
  all_goals rcases hq with rfl | rfl | rfl
  all_goals exact⟨by kernel_rfl,by
   unfold Ej Ip
   cases x
   unfold C2;rw[a]
   kernel_rfl⟩
theorem TQ:∀(l:List Df),(∀d∈l,IZ 3 false d)->EC l=true
 | [],_=>by rw[EC]
 | d::l,h=>by obtain⟨b,h2⟩:=mQ (h d (by simp));rw[EC,b,h2];exact TQ l λq a=>h q (by simp[a])
section
variable {ds:List Df} (hok:∀d∈ds,IZ 3 false d) (hf:YY ds) (hl:ds.length<=30)
include hok hl
theorem Mu:Er Cj ds=true:=by unfold Er;rw[decide_eq_false (show ¬(128:Int)<(ds.length:Int) by omega),show Tk.isName Cj=true by kernel_rfl];exact TQ ds hok
theorem Yr:Ee Cj ds 20464=0:=by unfold Ee;rw[Mu hok hl];rfl
include hf
theorem XX:Ca Cj ds=([],0):=by
 have hb:∀d∈ds,NI d:=λd hd=>ZF (hok d hd);have z:=yL hf hb (λd hd=>hd);unfold Ca;rw[Mu hok hl];refine PP _ _ 0 [] λj e he=>?_;have hm:=mem_of_getElem? he;refine⟨?_,λh5=>xf (hb e hm) h5 λq k=>?_,λo=>(xu (hb e hm) o z).1⟩
 ·rw[Nat.zero_add];refine Y3 λq k=>?_;obtain⟨i,hi⟩:=getElem?_of_mem k;have f:i<j:=by have:=(List.getElem?_eq_some_iff.1 hi).1;rw[length_take]at this;omega
  rw[getElem?_take_of_lt f]at hi;have m:=mem_of_getElem? hi;have y:G6 q≠G6 e:=λn=>by have r:=pairwise_iff_getElem.1 hf.nod i j (by rw[length_map];exact(List.getElem?_eq_some_iff.1 hi).1) (by rw[length_map];exact(List.getElem?_eq_some_iff.1 he).1) f;rw[getElem_map,getElem_map,(List.getElem?_eq_some_iff.1 hi).2,(List.getElem?_eq_some_iff.1 he).2]at r;exact r n
  show Hs q e=false;unfold Hs;by_cases hn:q.name=e.name
  ·rw[decide_eq_true hn];have c:q.frm≠e.frm:=λh=>y (by unfold G6;rw[hn,h]);obtain⟨l,g,u,q4,t⟩:=Pl (hok q m);obtain⟨p,s,e3,e4,e5⟩:=Pl (hok e hm);have a:q.kind=e.kind:=by rw[l,p,hn]
   have b:e.kind=2\/e.kind=3:=by
    rcases(hb e hm).kind with h | h | h | h | h
    ·exact absurd ((g (.inl (a.trans h))).trans (s (.inl h)).symm) c
    ·exact .inl h
    ·exact .inr h
    ·exact absurd ((u (a.trans h)).trans (e3 h).symm) c
    exact absurd ((g (.inr (a.trans h))).trans (s (.inr h)).symm) c
   have ht:I1 q=I1 e:=by obtain⟨t1,g1,g2⟩:=t (by rw[a];exact b);obtain⟨t2,g3,g4⟩:=e5 b;rw[<-g1,<-g3,g2,g4,hn]
   rw[SU,SU,ht,a];have x:(e.kind==5)=false:=by rcases b with h | h<;>rw[h]<;>rfl
   have w:(e.kind==1)=false:=by rcases b with h | h<;>rw[h]<;>rfl
   have v:(q.frm==e.frm)=false:=by simpa using c
   rw[x,w,v];simp
  rw[decide_eq_false hn];rfl
 have p:(AZ ds).1=ds.filter Hj:=by unfold AZ;rw[GO];simp
 rw[p]at k;obtain⟨l,g⟩:=mem_filter.1 k;exact⟨hb q l,g⟩
end
section
variable {ds:List Df} (hok:∀d∈ds,IZ 3 false d) (hf:YY ds) (hl:ds.length<=30)
include hok
theorem YW {d:Df} (hd:d∈ds):∃j∈As ds 20464,(κ ds j).kind=d.kind/\(κ ds j).name=d.name:=by
 obtain⟨i,hi⟩:=getElem?_of_mem hd;have a:=(List.getElem?_eq_some_iff.1 hi).1;have hg:ds.getD i default=d:=by rw[getD_eq_getElem?_getD,hi];rfl
 obtain⟨_,e,g,c,_⟩:=Pl (hok d hd);have b:d.frm<=20464:=by
  rcases(ZF (hok d hd)).kind with h | h | h | h | h
  ·rw[e (.inl h)];decide
  ·rcases c (.inl h)with h | h<;>rw[h]<;>decide
  ·rcases c (.inr h)with h | h<;>rw[h]<;>decide
  ·rw[g h];decide
  rw[e (.inr h)];decide
 obtain⟨j,k,h2,f⟩:=AC9 (ds:=ds) (day:=20464) _ i rfl a (by rw[hg];exact b);rw[hg]at h2 f;exact⟨j,k,h2,f⟩
include hf
theorem MR {nm:List UInt8} (h:nm=[114,49]\/nm=[114,50]\/nm=[114,51]\/nm=[114,52]\/nm=[97]):∃j∈As ds 20464,Fo ds j=true/\(κ ds j).name=nm:=by
 have go:∀ {d:Df},d∈ds->d.kind=3\/d.kind=4->d.name=nm->∃j∈As ds 20464,Fo ds j=true/\(κ ds j).name=nm:=λ{d} hd a hn=>by obtain⟨j,c,h2,b⟩:=YW hok hd;refine⟨j,c,?_,b.trans hn⟩;show BM (κ ds j)=true;unfold BM;rw[h2];rcases a with a | a<;>rw[a]<;>rfl
 rcases h with rfl | rfl | rfl | rfl | rfl
 ·obtain⟨x,hx⟩:=hf.rul 0 (by decide);exact go hx (.inl rfl) rfl
 ·obtain⟨x,hx⟩:=hf.rul 1 (by decide);exact go hx (.inl rfl) rfl
 ·obtain⟨x,hx⟩:=hf.rul 2 (by decide);exact go hx (.inl rfl) rfl
 ·obtain⟨x,hx⟩:=hf.rul 3 (by decide);exact go hx (.inl rfl) rfl
 obtain⟨x,m,q,hx⟩:=hf.pay;exact go hx (.inr rfl) rfl
theorem RW {i:Nat} (hi:i∈As ds 20464) (hc:Fo ds i=true):(Cu ds (As ds 20464) i).2=0/\∀j∈(Cu ds (As ds 20464) i).1,j∈As ds 20464/\Fo ds j=true/\Ky (ds.getD j default).name<Ky (ds.getD i default).name:=by
 have hd:ds.getD i default∈ds:=DR (NG.1 hi).1;obtain⟨f,t,hx⟩:=XM (hok _ hd) hc;unfold Cu;refine Ls (ι:=LD (Ky (ds.getD i default).name:Nat)) (λj k m hn=>⟨k,m,by have:=AGF (by omega) hn;dsimp only[κ]at this;omega⟩) (λnm hn=>?_) (λnm hn=>?_) _ 0 [] (xe hx) (λj k=>by cases k)
 ·have c:∀ {d:Df},d∈Fa->d.kind=1->d.name=nm->(∃d∈ds,d.kind=1/\d.name=nm)\/∃e∈As ds 20464,Fo ds e=true/\(ds.getD e default).name=nm:=λ{d} f h2 g=>.inl ⟨d,hf.ins d f,h2,g⟩;have a:∀ {b:Bool} {l:List (List UInt8)},nm∈cond b l []->nm∈l:=λ{b l} n=>by
   cases b
   ·cases n
   exact n
  unfold LD at hn;rcases mem_append.1 hn with h | h
  ·rcases mem_append.1 h with h | h
   ·rcases mem_append.1 h with h | h
    ·rcases mem_append.1 h with h | h
     ·simp only[mem_cons,not_mem_nil,or_false]at h;rcases h with rfl | rfl | rfl
      ·exact c (d:=⟨1,[102],true,0,0,0,0,[],BU,0,0,0⟩) (by simp[Fa]) rfl rfl
      ·exact c (d:=⟨1,[104],false,0,1,0,0,[],BU,0,0,0⟩) (by simp[Fa]) rfl rfl
      exact c (d:=⟨1,[103],false,0,0,0,0,[],BU,0,0,0⟩) (by simp[Fa]) rfl rfl
     exact .inr (MR hok hf (.inl (mem_singleton.1 (a h))))
    exact .inr (MR hok hf (.inr (.inl (mem_singleton.1 (a h)))))
   exact .inr (MR hok hf (.inr (.inr (.inl (mem_singleton.1 (a h))))))
  have h:=a h;simp only[mem_cons,not_mem_nil,or_false]at h;rcases h with h | h
  ·exact .inr (MR hok hf (.inr (.inr (.inr (.inl h)))))
  exact .inr (MR hok hf (.inr (.inr (.inr (.inr h)))))
 rcases hn with rfl | rfl
 ·obtain⟨es,_,hs⟩:=hf.scw;obtain⟨j,f,h2,g⟩:=YW hok hs;exact⟨j,f,h2,g⟩
 obtain⟨es,_,hs⟩:=hf.scs;obtain⟨j,f,h2,g⟩:=YW hok hs;exact⟨j,f,h2,g⟩
include hl
theorem gQ:(BC Cj ds 20464).2=0:=by
 have hg:Bj Cj ds 20464=CA ds 20464 (As ds 20464) 0 [] []:=by unfold Bj;rw[Yr hok hl];rfl
 obtain⟨o,g,n,_⟩:=Px (ds:=ds) (day:=20464) (As ds 20464) 0 [] [] λe he hc=>(RW hok hf he hc).1;unfold BC;rw[hg,o];rw[nil_append]at g;show(GI _ _).2=0;unfold GI;refine RL (λr ml S c=>?_) _ [] [] (AIH _);rw[g]at S c ⊢;have b:((As ds 20464).filter (Fo ds)).Nodup:=(YV ds 20464).filter _;have key:∀m:Nat,(∃i∈(As ds 20464).filter (Fo ds),i∉r/\Ky (ds.getD i default).name<=m)->∃i∈(As ds 20464).filter (Fo ds),DQ ml (CA ds 20464 (As ds 20464) 0 [] []).2.1 i=true:=by
  intro m
  induction m with
  | zero=>
   rintro⟨i,hi,hr,hm⟩;have a:=mem_filter.1 hi;have:=(XM (hok _ (DR (NG.1 a.1).1)) a.2).1;omega
  | succ m ih=>
   rintro⟨i,hi,hr,hm⟩;have a:=mem_filter.1 hi;by_cases hall:∀j∈(Cu ds (As ds 20464) i).1,j∈r
   ·refine⟨i,hi,qS ?_ ?_⟩
    ·cases hb:(Bf ml i).getD false
     ·rfl
     exact absurd ((S.ml i).1 hb) hr
    rw[n i hi];exact λj f=>(S.ml j).2 (hall j f)
   simp only[Classical.not_forall]at hall;obtain⟨j,f,d⟩:=hall;obtain⟨l,k,p⟩:=(RW hok hf a.1 a.2).2 j f;exact ih ⟨j,mem_filter.2 ⟨l,k⟩,d,by omega⟩
 obtain⟨i,hi,hr⟩:∃i∈(As ds 20464).filter (Fo ds),i∉r:=Classical.byContradiction λh=>by have:=ZM _ r b λi hi=>Classical.byContradiction λhr=>h ⟨i,hi,hr⟩;omega
 exact key _ ⟨i,hi,hr,Nat.le_refl _⟩
omit hok hf hl in
theorem SX {n:List UInt8} {p:Int} {m:List (List UInt8×Int)}:∀(es:List Nat) (a:Int) (b:List DY),(Cq n ds p m es a b).2.2.2.2=0\/(Cq n ds p m es a b).2.2.2.2=3
 | [],a,b=>by rw[Cq];exact .inl rfl
 | e::es,a,b=>by
  rw[Cq]
  cases decide (4096<((Ai (AA n ds p).2.2.2.1 (AA n ds p).2.2.2.2.1 (AA n ds p).2.2.2.2.2.1 m ((κ ds e).body).height ((κ ds e).body) 0).length:Int))
  ·rw[cond_false]
   cases (κ ds e).kind==4
   ·exact SX es a _
   exact SX es a _
  exact .inr rfl
omit hok hf hl in
theorem Zl {n:List UInt8} {p:Int}:∀(es:List Nat) (i:Nat) (a:List (List UInt8×Int)),(DM n ds p es i a).2.2.2.2=0\/(DM n ds p es i a).2.2.2.2=3
 | [],i,a=>by rw[DM];exact SX _ _ _
 | e::es,i,a=>by rw[DM];exact Zl es _ _
theorem mb:(CB Cj ds 20464).2.2.2.2=0\/(CB Cj ds 20464).2.2.2.2=3:=by unfold CB;rw[Mu hok hl,XX hok hf hl,gQ hok hf hl];exact Zl _ _ _
end
theorem Wk.finN {w0 w w':World} {b:Nat} {ns:List Int} {X:List Th} (K:Wk w0 w' [] (BV w0 b ns::CI b w::X) []) (g:(U w0)=b):AY (U w) w' X:=by
 have a:=K.fin g;have f:=K.H.all (K.ix 1) _ (K.at 1 rfl);have h:=K.H;simp only[map_nil,nil_append,append_nil]at h;refine⟨f.1,λi t hi=>a.all i t hi,λi t hi k c=>⟨?_,(a.lo i t hi k c).2⟩,λi j s t hi e hn=>a.apart i j s t hi e hn⟩;have h2:=(a.lo i t hi k c).1;rcases Nat.lt_or_ge k (U w)with d | d
 ·exact absurd c (h.apart 1 (i+2) (CI b w) t rfl hi (by omega) k ⟨by omega,d⟩)
 exact d
theorem F3.ok {b:Nat} {ns:List Int} {w:World}:∀e w',F3 b ns w e w'->Br b ns w'/\CU b w w':=λ_ _ ⟨_,_,_,a,h2⟩=>⟨a,h2⟩
attribute [local irreducible] BI BQ AD AE AG Au Ab AO A8 Bi Ct BX EH DW BO At Fr
noncomputable def Z0:Code:=Tryz.f31.body.getD .skip
def rf:=ν [.code Z0]
def bW:=Ψ rf
def ADb:=Θ bW
def ADa:=Ξ bW
theorem Ld (b:Nat) (ns:List Int) (w:World) (o:Br b ns w):Calls Tryz.prog 31 ([Z b]:List Value).toArray w (F3 b ns w):=by
 refine AS (fn:=Tryz.f31) (c:=Z0) (n:=14) ?_;obtain⟨w0,d,i⟩:=Wk.tape o;have f:=i.B;refine An rf [N (U w) [J 0,J 0] 47] i [] λl h=>?_;refine BS h d 0 rfl (Be b ns 121 l (h.tapeOk d 0 rfl) (by omega) (by omega)) Bl.ok λe s m q=>?_;obtain⟨k,t,rfl,_,_⟩:=m;refine⟨_,rfl,?_⟩;refine AC bW q [] λr g=>?_;refine AH (!(Int.tmod (IntKind.i64.wrap ((k:Int)-20)) 2==0)) (λp=>?_) (λp=>?_)
 ·refine Ar ADb g [(0,0)] λj a=>?_;exact AN a (0,0) (D [J (IntKind.i64.wrap ((k:Int)-20)),J 2]) ⟨_,_,rfl,a.out d f⟩
 refine Ar ADa g [(0,0)] λj a=>?_;exact AN a (0,0) (D [J (IntKind.i64.wrap ((k:Int)-20)),J 1]) ⟨_,_,rfl,a.out d f⟩
abbrev Gf (A:Option Addr) (c:Nat) (l:List Dz):Th:=Th.row 93 3 (λe r=>r=Fn e) A c l
theorem OB {n:Nat}:∀(rs:List (List Value)) (k:Nat),(∀r∈rs,r.length=n)->(rs.take k).flatten=rs.flatten.take (k*n)
 | [],k,_=>by simp
 | r::rs,0,_=>by simp
 | r::rs,k+1,h=>by rw[take_succ_cons,flatten_cons,flatten_cons,OB rs k λr hr=>h r (by simp[hr]),Nat.succ_mul,Nat.add_comm,<-h r (by simp),take_length_add_append]
theorem AY.rowTake {α:Type} {b:Nat} {w:World} {L:List Th} {ε:TypeId} {n:Nat} {f:α->List Value} {A:Option Addr} {c:Nat} {l:List α} (hn:∀e,(f e).length=n) (h:AY b w L) (i:Nat) (hi:L[i]?=some (Th.row ε n (λe r=>r=f e) A c l)) (k:Nat) (s:k<=l.length):AY b w (L.set i (Th.row ε n (λe r=>r=f e) A c (l.take k))):=by
 obtain⟨rs,hr,ho⟩:=h.all i _ hi;have j:=JW hr;have d:(l.take k).length=k:=by rw[length_take];omega
 have a:∀r∈rs,r.length=n:=λr hm=>by rw[j]at hm;obtain⟨e,_,rfl⟩:=mem_map.1 hm;exact hn e
 refine h.set i hi (Nat.le_refl _) ⟨(l.take k).map f,Eh _,?_,?_⟩ (λq p=>⟨(h.lo i _ hi q p).2,.inl p⟩) (λ_ _ _=>rfl)
 ·rw[map_take,<-j,OB rs k a,d,length_take,ho.1,Nat.min_eq_left (Nat.mul_le_mul_right _ s)]
 rw[map_take,<-j,d,OB rs k a];rcases ho.2 with⟨m,h2⟩ | ⟨g,cap,o,m,h2,y,z,x,v,u⟩
 ·left;simp only[Value.slice.injEq]at m;obtain⟨rfl,t,rfl⟩:=m;exact⟨by rw[show k=0 by omega],by omega⟩
 right;simp only[Value.slice.injEq]at m;obtain⟨rfl,_,rfl⟩:=m;refine⟨g,c,o,rfl,h2,y,by omega,x,v,?_⟩;rw[<-u,take_take,Nat.min_eq_left (Nat.mul_le_mul_right _ s)]
noncomputable def aS:Code:=Tryz.f8.body.getD .skip
def sa:=ν [.code aS]
def sZ:=Ψ sa
def sY:=Ψ sZ
def sX:=Ψ sY
def ci:=Ψ sX
def cg:=Θ ci
def UD:=AB (Aq (IV) 90 (AD cg)) (AD cg)
def cf:=AB (Aq (BH) 90 (AD UD)) (AD UD)
def AEK:=Ψ cf
def ce:=Ξ ci
def jT:=Θ ce
def VZ:=Ψ jT
def jS:=AB (Aq (Aa) 90 (AD VZ)) (AD VZ)
def VY:=Ψ jS
def QR:=Ξ ce
def VX:=AB (Aq (BH) 90 (AE QR)) (AE QR)
def y8:=Ψ VX
def y7:=Ξ QR
theorem gZ (b:Nat) (ns:List Int) (w:World) (hT:Br b ns w):Calls Tryz.prog 8 ([Z b]:List Value).toArray w λe w'=>∃A c,∃ins:List Dz,e=.returned (V A ins.length c)/\ins.length<=4/\(∀x∈ins,x.1.length<=2)/\AY (U w) w' [Gf A c ins]/\Br b ns w'/\CU b w w':=by
 refine AS (fn:=Tryz.f8) (c:=aS) (n:=44) ?_;obtain⟨w0,d,K0⟩:=Wk.tape hT;have hw:=K0.B;refine AC sa K0 [] λw1 K1=>?_;refine BS K1 d 0 rfl (Ld b ns w1 (K1.tapeOk d 0 rfl)) F3.ok λe w1 hq K1=>?_;obtain⟨m,t,rfl,_,_⟩:=hq;refine⟨_,rfl,?_⟩;refine AC sZ K1 [] λw2 K2=>?_;refine BS K2 d 0 rfl (Ld b ns w2 (K2.tapeOk d 0 rfl)) F3.ok λe w2 hq K2=>?_;obtain⟨l,s,rfl,_,_⟩:=hq;refine⟨_,rfl,?_⟩;refine AC sY K2 [] λu K3=>?_;refine BS K3 d 0 rfl (Be b ns 2 _ (K3.tapeOk d 0 rfl) (by omega) (by omega)) Bl.ok λe u hq K3=>?_;obtain⟨p,g0,rfl,_,_⟩:=hq;refine⟨_,rfl,?_⟩;refine An sX [N (U u) [Y [104],J m,J t,Y [103],J l,J s,Y [102],J (p:Int),J 1] 93] K3 [] λw4 K4=>?_;refine BS K4 d 0 rfl (Be b ns 10 _ (K4.tapeOk d 0 rfl) (by omega) (by omega)) Bl.ok λe w4 hq K4=>?_;obtain⟨k,hk,rfl,_,_⟩:=hq;refine⟨_,rfl,?_⟩;refine AC ci K4 [] λw5 K5=>?_;have b0:∀x∈([([104],m,t),([103],l,s),([102],(p:Int),1)]:List Dz),x.1.length<=2:=λx hx=>by simp only[mem_cons,not_mem_nil,or_false]at hx;rcases hx with rfl | rfl | rfl<;>simp
 refine AH ((k:Int)==7) (λc1=>?_) (λc1=>?_)
 ·refine AC cg K5 [] λw6 K6=>?_;refine BS K6 d 0 rfl (Be b ns 3 _ (K6.tapeOk d 0 rfl) (by omega) (by omega)) Bl.ok λe w6 hq K6=>?_;obtain⟨q,hq,rfl,_,_⟩:=hq;refine⟨_,rfl,?_⟩;have a0:q<=3:=by omega
  have KR:=K6.entRows (n:=3) 0 (λe r=>r=Fn e) [([104],m,t),([103],l,s),([102],(p:Int),1)] ([([104],m,t),([103],l,s),([102],(p:Int),1)].map Fn) (Eh _) rfl rfl (by simp) rfl;refine Ao IV UD KR [] λw7 K7=>?_;have K8:=K7.put 2 (by simp) (Below.refl _ _) (K7.H.rowTake (f:=Fn) (n:=3) (λ_=>rfl) (K7.ix 2) (K7.at 2 rfl) q a0);refine EW (Lm (o:=Cr UD) (len:=3) (cap:=3) (i:=q) (a:=some ⟨U u,0,none⟩) (x:=.tmp 19) (h:=.tmp 21) (by kernel_rfl) Tryz.underlying38 (by decide) (by kernel_rfl) (by kernel_rfl) a0 (λa ha=>by obtain rfl:=Option.some.inj ha;rfl)) ?_;have e0:(([([104],m,t),([103],l,s),([102],(p:Int),1)]:List Dz).take q).length=q:=by rw[length_take];exact Nat.min_eq_left a0
  refine AX [(22,V (some ⟨U u,0,none⟩) q 3)] λE8=>?_;rw[<-e0];generalize hli:([([104],m,t),([103],l,s),([102],(p:Int),1)]:List Dz).take q=li at K8 e0 ⊢;refine Bn BH cf [N (U w7) [Y [114,49],J 9,J 1] 93] K8 [] λw9 K9=>?_;refine CD K9.H (K9.ix 2) (K9.at 2 rfl) ([114,49],9,1) (Fn ([114,49],9,1)) rfl (U w7) (K9.ent 0 rfl) (Cr cf) (by kernel_rfl) (.tmp 22) (.tmp 25) 38 (by kernel_rfl) (by kernel_rfl) (by kernel_rfl) (by decide) (by kernel_rfl) (by kernel_rfl) rfl rfl (by omega) λA2 c2 y Hn d0=>?_;have j:=K9.put 2 (by simp) d0 Hn;refine AC AEK j [] λwz Kz=>?_;have v:Wk w0 wz [] [BV w0 b ns,CI b w,Gf A2 c2 (li++[([114,49],9,1)])] []:=Kz.pk [] [0,1,2];refine AN Kz (0,0) (V A2 (li++[([114,49],9,1)]).length c2) ⟨A2,c2,(li++[([114,49],9,1)]),rfl,by rw[length_append,length_singleton];omega,?_,v.finN d,v.out d hw⟩;intro x hx;rcases mem_append.1 hx with hx | hx
  ·rw[<-hli]at hx;exact b0 x (mem_of_mem_take hx)
  rw[mem_singleton.1 hx];simp
 refine AC ce K5 [] λw6 K6=>?_;refine AH ((k:Int)==8) (λc2=>?_) (λc2=>?_)
 ·refine AC jT K6 [] λw7 K7=>?_;refine BS K7 d 0 rfl (Be b ns 3 _ (K7.tapeOk d 0 rfl) (by omega) (by omega)) Bl.ok λe w7 hq K7=>?_;obtain⟨q,hq,rfl,_,_⟩:=hq;refine⟨_,rfl,?_⟩;have a0:q<3:=by omega
  refine AC VZ K7 [] λw8 K8=>?_;refine BS K8 d 0 rfl (OA b ns w8 (K8.tapeOk d 0 rfl)) F3.ok λe w8 hq K8=>?_;obtain⟨z,df,rfl,_,_⟩:=hq;refine⟨_,rfl,?_⟩;refine Ao Aa jS K8 [] λw9 K9=>?_;refine Aw (g:=(U u)) (off:=0) (cap:=3) (sz:=3) (k:=q) (len:=3) (some 34) a0 Tryz.underlying38 ?_;have c0:q=0\/q=1\/q=2:=by omega
  rcases c0 with rfl | rfl | rfl
  ·refine An VY [N (U u) [Y [104],J z,J df,Y [103],J l,J s,Y [102],J (p:Int),J 1] 93] K9 [(0,1)] λy j=>?_;have KR:=j.entRows (n:=3) 0 (λe r=>r=Fn e) ([([104],z,df),([103],l,s),([102],(p:Int),1)]:List Dz) (([([104],z,df),([103],l,s),([102],(p:Int),1)]:List Dz).map Fn) (Eh _) rfl rfl (by simp) rfl;have v:Wk w0 y [] [BV w0 b ns,CI b w,Gf (some ⟨U u,0,none⟩) 3 ([([104],z,df),([103],l,s),([102],(p:Int),1)]:List Dz)] []:=KR.pk [] [0,1,2];refine AN j (0,0) (V (some ⟨U u,0,none⟩) 3 3) ⟨some ⟨U u,0,none⟩,3,([([104],z,df),([103],l,s),([102],(p:Int),1)]:List Dz),rfl,by simp,?_,v.finN d,v.out d hw⟩;intro x hx;simp only[mem_cons,not_mem_nil,or_false]at hx;rcases hx with rfl | rfl | rfl<;>simp
  ·refine An VY [N (U u) [Y [104],J m,J t,Y [103],J z,J df,Y [102],J (p:Int),J 1] 93] K9 [(0,4)] λy j=>?_;have KR:=j.entRows (n:=3) 0 (λe r=>r=Fn e) ([([104],m,t),([103],z,df),([102],(p:Int),1)]:List Dz) (([([104],m,t),([103],z,df),([102],(p:Int),1)]:List Dz).map Fn) (Eh _) rfl rfl (by simp) rfl;have v:Wk w0 y [] [BV w0 b ns,CI b w,Gf (some ⟨U u,0,none⟩) 3 ([([104],m,t),([103],z,df),([102],(p:Int),1)]:List Dz)] []:=KR.pk [] [0,1,2];refine AN j (0,0) (V (some ⟨U u,0,none⟩) 3 3) ⟨some ⟨U u,0,none⟩,3,([([104],m,t),([103],z,df),([102],(p:Int),1)]:List Dz),rfl,by simp,?_,v.finN d,v.out d hw⟩;intro x hx;simp only[mem_cons,not_mem_nil,or_false]at hx;rcases hx with rfl | rfl | rfl<;>simp
  refine An VY [N (U u) [Y [104],J m,J t,Y [103],J l,J s,Y [102],J z,J df] 93] K9 [(0,7)] λy j=>?_;have KR:=j.entRows (n:=3) 0 (λe r=>r=Fn e) ([([104],m,t),([103],l,s),([102],z,df)]:List Dz) (([([104],m,t),([103],l,s),([102],z,df)]:List Dz).map Fn) (Eh _) rfl rfl (by simp) rfl;have v:Wk w0 y [] [BV w0 b ns,CI b w,Gf (some ⟨U u,0,none⟩) 3 ([([104],m,t),([103],l,s),([102],z,df)]:List Dz)] []:=KR.pk [] [0,1,2];refine AN j (0,0) (V (some ⟨U u,0,none⟩) 3 3) ⟨some ⟨U u,0,none⟩,3,([([104],m,t),([103],l,s),([102],z,df)]:List Dz),rfl,by simp,?_,v.finN d,v.out d hw⟩;intro x hx;simp only[mem_cons,not_mem_nil,or_false]at hx;rcases hx with rfl | rfl | rfl<;>simp
 refine AC QR K6 [] λw7 K7=>?_;have KR:=K7.entRows (n:=3) 0 (λe r=>r=Fn e) [([104],m,t),([103],l,s),([102],(p:Int),1)] (([([104],m,t),([103],l,s),([102],(p:Int),1)]:List Dz).map Fn) (Eh _) rfl rfl (by simp) rfl;refine AH ((k:Int)==9) (λc3=>?_) (λc3=>?_)
 ·refine Bn BH VX [N (U w7) [Y [104],J 77,J 1] 93] KR [] λw9 K9=>?_;refine CD K9.H (K9.ix 2) (K9.at 2 rfl) ([104],77,1) (Fn ([104],77,1)) rfl (U w7) (K9.ent 0 rfl) (Cr VX) (by kernel_rfl) (.tmp 38) (.tmp 41) 38 (by kernel_rfl) (by kernel_rfl) (by kernel_rfl) (by decide) (by kernel_rfl) (by kernel_rfl) rfl rfl (by simp) λA2 c2 y Hn d0=>?_;have j:=K9.put 2 (by simp) d0 Hn;refine AC y8 j [] λwz Kz=>?_;have v:Wk w0 wz [] [BV w0 b ns,CI b w,Gf A2 c2 ([([104],m,t),([103],l,s),([102],(p:Int),1)]++[([104],77,1)]:List Dz)] []:=Kz.pk [] [0,1,2];refine AN Kz (0,0) (V A2 ([([104],m,t),([103],l,s),([102],(p:Int),1)]++[([104],77,1)]:List Dz).length c2) ⟨A2,c2,([([104],m,t),([103],l,s),([102],(p:Int),1)]++[([104],77,1)]:List Dz),rfl,by simp,?_,v.finN d,v.out d hw⟩;intro x hx;rcases mem_append.1 hx with hx | hx
  ·exact b0 x hx
  rw[mem_singleton.1 hx];simp
 skip
 refine AC y7 KR [] λwz Kz=>?_;have v:Wk w0 wz [] [BV w0 b ns,CI b w,Gf (some ⟨U u,0,none⟩) 3 ([([104],m,t),([103],l,s),([102],(p:Int),1)]:List Dz)] []:=Kz.pk [] [0,1,2];refine AN Kz (0,0) (V (some ⟨U u,0,none⟩) ([([104],m,t),([103],l,s),([102],(p:Int),1)]:List Dz).length 3) ⟨(some ⟨U u,0,none⟩),3,([([104],m,t),([103],l,s),([102],(p:Int),1)]:List Dz),rfl,by simp,?_,v.finN d,v.out d hw⟩;exact b0
end
end Go.Proofs.YtkpemkkbjfbmaaaGreat
namespace Go.Proofs.YtkpemkkbjfbmaaaGreat
open List
noncomputable section
open Go.RowKit
set_option maxRecDepth 100000
set_option maxHeartbeats 1000000
abbrev DO (A:Option Addr) (c:Nat) (l:List (Int×Int)):Th:=Th.row 47 2 (λe r=>r=BD e) A c l
abbrev PaX:=IY×Option Addr×Nat
abbrev ZU (x:PaX):List Value:=[Y (x.1.1),V x.2.1 x.1.2.length x.2.2]
abbrev ADD (A:Option Addr) (c:Nat) (l:List PaX):Th:=Th.row 96 2 (λe r=>r=ZU e) A c l
theorem AY.slOk {α:Type} {b:Nat} {w:World} {L:List Th} {ε:TypeId} {n:Nat} {e:α->List Value->Prop} {A:Option Addr} {c:Nat} {l:List α} (h:AY b w L) (i:Nat) (hi:L[i]?=some (Th.row ε n e A c l)):iJ A l.length c:=by
 obtain⟨rs,_,ho⟩:=h.all i _ hi;rcases ho.2 with⟨d,h2⟩ | ⟨g,cap,j,d,_,_,f,_⟩
 ·simp only[Value.slice.injEq]at d;obtain⟨rfl,_,rfl⟩:=d;exact⟨by omega,λa ha=>by cases ha⟩
 simp only[Value.slice.injEq]at d;obtain⟨rfl,_,rfl⟩:=d;exact⟨f,λa ha=>by obtain rfl:=Option.some.inj ha;rfl⟩
theorem RC {P:Program} {o:Oper} {ρ:Operand->Value} {α:Type} {b:Nat} {w:World} {L:List Th} {ε:TypeId} {n g c:Nat} {f:α->List Value} {x0 e':α} {s:List α} (hn:∀e,(f e).length=n) (H:AY b w L) (i:Nat) (hi:L[i]?=some (Th.row ε n (λe r=>r=f e) (θ g) c (x0::s))) {t:TypeId} {x y:Operand} (ho:o.op=.store t x y) (hx:ρ x=Z g) (hy:ρ y=D (f e')) (v:Le P t=some n) (h1:(f e').all (·.oneCell')=true) :
  ∃w',(execOp ρ o).run P w=.ok .skip w'/\AY b w' (L.set i (Th.row ε n (λe r=>r=f e) (θ g) c (e'::s)))/\Below b w w':=by
 obtain⟨rs,hr,hP⟩:=H.all i _ hi;have l:=JW hr;rcases hP.2 with⟨h0,_⟩ | ⟨g',cap,a,hA,_,hg,p,b0,a0,ht⟩
 ·cases h0
 simp only[Value.slice.injEq,Option.some.injEq,Addr.mk.injEq]at hA;obtain⟨⟨rfl,_⟩,_,rfl⟩:=hA;have c0:n<=a.size:=by rw[a0];exact Nat.le_mul_of_pos_left n (by rw[length_cons]at p;omega)
 have k:=run_storeCells_at P g 0 ε (f e') 0 a w hg (by rw[hn];omega) (λu hu=>all_eq_true.1 h1 u hu);obtain⟨j,m⟩:∃j,j=(a.toList.take (0+0)++f e'++a.toList.drop (0+0+(f e').length)).toArray:=⟨_,rfl⟩;rw[<-m]at k;have d:j.toList=f e'++a.toList.drop n:=by rw[m,hn];simp
 have d0:=H.lo i _ hi g rfl;have h:(w.setRow g j).heap.size=w.heap.size:=by unfold World.setRow;simp
 refine⟨w.setRow g j,?_,H.set i hi (by omega) ⟨(e'::s).map f,Eh _,?_,.inr ⟨g,c,j,rfl,Nat.zero_le _,setRow_heap w g a _ ε _ hg,p,b0,?_,?_⟩⟩ (λq z=>⟨?_,.inl z⟩) (λq _ hf=>setRow_other w g q _ λe=>hf (by rw[e];rfl)),⟨rfl,rfl,rfl,by omega,λq z=>setRow_other w g q _ λe=>by omega⟩⟩
 ·unfold execOp;simp only[ho,hx,hy];have h2:(Value.agg ⟨f e'⟩).cells=⟨f e'⟩:=rfl;have h3:(⟨f e'⟩:Array Value).size=n:=hn e';simp[Instr.storeAt,Instr.sureAddr,storeVar,In v,h2,h3,k]
 ·have:=hP.1;rw[l]at this;rw[map_cons,flatten_cons,length_append,hn];rw[map_cons,flatten_cons,length_append,hn]at this;exact this
 ·rw[<-Array.length_toList,d,length_append,hn,length_drop,Array.length_toList];omega
 ·rw[l,map_cons,flatten_cons]at ht;rw[d,map_cons,flatten_cons,length_cons,Nat.succ_mul,Nat.add_comm,<-hn e',take_length_add_append];have h2:=congrArg (List.drop n) ht;rw[drop_take,length_cons,Nat.succ_mul,Nat.add_sub_cancel]at h2;rw[hn,h2,<-hn x0,drop_left]
 rw[h];exact(H.lo i _ hi q z).2
attribute [local irreducible] BI BQ AD AE AG Au Ab AO A8 Bi Ct BX EH DW BO At Fr
noncomputable def aN:Code:=Tryz.f9.body.getD .skip
def OS:=ν [.code aN]
def cQ:=ν (Au OS)
def sQ:=Θ cQ
def OR:=Ψ sQ
def cP:=ν (Au OR)
def cO:=Ac 8 (AE cP)
def sP:=Ξ cQ
def cN:=Ψ sP
def cM:=Θ cN
def sO:=AB (Aq (Aa) 90 (AD cM)) (AD cM)
def ir:=Ψ sO
def U9:=Ξ cN
def U8:=Ac 13 (AE U9)
def iq:=Ω U8
def yj:=Ξ U9
def Fe:Array Oper:=Ak cO
def rE:Wr:=[(22,2),(23,3),(24,4),(25,5),(26,6),(27,7),(28,8),(29,9)]
def JY:Array Oper:=Ak U8
def yA:Wr:=[(44,0),(45,1),(46,2),(47,3),(48,4),(49,5),(50,6),(51,7)]
theorem LB {b:Nat} {ns:List Int} {w0 w w':World} {h g:Option Addr} {d a:Nat} {l0 l1:List (Int×Int)} (K:Wk w0 w' [N (U w) [Y [103,114,111,115,115],V h l0.length d,Y [116,105,109,101],V g l1.length a] 96] [BV w0 b ns,CI b w,DO h d l0,DO g a l1] []) (i:(U w0)=b) (k:Below (U w0) w0 w) (m:l0.length<=4) (l:l1.length<=4) :
  ∃A c,∃pa:List IY,∃L':List Th,Ending.returned (V (some ⟨U w,0,none⟩) 2 2)=.returned (V A pa.length c)/\pa.length<=2/\(∀x∈pa,x.2.length<=4)/\L'.length=3/\AY (U w) w' L'/\(∀(n:Nat) (u:World),AY n u L'->Gn u A pa)/\Br b ns w'/\CU b w w':=by
 have j:=K.entRows (n:=2) 0 (λe r=>r=ZU e) [(([103,114,111,115,115],l0),h,d),(([116,105,109,101],l1),g,a)] ([(([103,114,111,115,115],l0),h,d),(([116,105,109,101],l1),g,a)].map ZU) (Eh _) rfl rfl (by simp) rfl;refine⟨some ⟨U w,0,none⟩,2,[([103,114,111,115,115],l0),([116,105,109,101],l1)],[DO h d l0,DO g a l1,ADD (some ⟨U w,0,none⟩) 2 [(([103,114,111,115,115],l0),h,d),(([116,105,109,101],l1),g,a)]],rfl,by simp,λx hx=>?_,rfl,j.finN i,λn u hu=>?_,j.out i k⟩
 ·simp only[mem_cons,not_mem_nil,or_false]at hx;rcases hx with rfl | rfl
  ·exact m
  exact l
 have o:=hu.rowsF (f:=ZU) (λ_=>rfl) 2 rfl;exact⟨[ZU (([103,114,111,115,115],l0),h,d),ZU (([116,105,109,101],l1),g,a)],⟨⟨h,d,rfl,hu.slOk 0 rfl,hu.rowsF (λ_=>rfl) 0 rfl⟩,⟨g,a,rfl,hu.slOk 1 rfl,hu.rowsF (λ_=>rfl) 1 rfl⟩,trivial⟩,o⟩
theorem qX {b:Nat} {ns:List Int} {w0 w:World} {R:Ending->World->Prop} (h0:(U w0)=b) (d0:b<(U w)) {c l:Option Addr} {a j:Nat} {l0 l1:List (Int×Int)} {k:Nat} (hI:1<=l0.length+k/\l0.length+k<=4/\l1.length=0) (z:Nat->Value) (q:World) (K0:Wk w0 q [N (U w) [Y [103,114,111,115,115],V c l0.length a,Y [116,105,109,101],V l l1.length j] 96] [BV w0 b ns,CI b w,DO c a l0,DO l j l1] [])
  (s:∀(c:Option Addr) (l0:List (Int×Int)) (a:Nat) (l:Option Addr) (l1:List (Int×Int)) (j:Nat) (E:Nat->Value) (wy:World),1<=l0.length->l0.length<=4->l1.length=0->Wk w0 wy [N (U w) [Y [103,114,111,115,115],V c l0.length a,Y [116,105,109,101],V l l1.length j] 96] [BV w0 b ns,CI b w,DO c a l0,DO l j l1] []->At Tryz.prog 9 R (Ab OS) (Fr 54 (BN E [(0,Z b),(3,V (some ⟨U w,0,none⟩) 2 2),(4,J ((1:Nat):Int))])) wy) :
  At Tryz.prog 9 R OR (Fr 54 (BN z [(0,Z b),(3,V (some ⟨U w,0,none⟩) 2 2),(4,J ((0:Nat):Int)),(5,J (k:Int))])) q:=by
 refine Bp (by kernel_rfl) (λE q=>∃(k:Nat) (c:Option Addr) (l0:List (Int×Int)) (a:Nat) (l:Option Addr) (l1:List (Int×Int)) (j:Nat) (z:Nat->Value),E=BN z [(0,Z b),(3,V (some ⟨U w,0,none⟩) 2 2),(4,J ((0:Nat):Int)),(5,J (k:Int))]/\(1<=l0.length+k/\l0.length+k<=4/\l1.length=0)/\Wk w0 q [N (U w) [Y [103,114,111,115,115],V c l0.length a,Y [116,105,109,101],V l l1.length j] 96] [BV w0 b ns,CI b w,DO c a l0,DO l j l1] []) (λE _=>AP (E 5)) ⟨k,c,l0,a,l,l1,j,z,rfl,hI,K0⟩ ?_;clear K0 hI;rintro E q ⟨k,c,l0,a,l,l1,j,z,rfl,hI,K1⟩ p;refine AC cP K1 [] λw2 K2=>?_;refine AH (decide (0<(k:Int))) (λcc=>?_) (λcc=>?_)
 ·obtain⟨k,rfl⟩:∃m,k=m+1:=⟨k-1,by have:=of_decide_eq_true cc;omega⟩;refine Al 8 cO K2 [] λw3 K3=>?_;refine DK Fe 14 ?_;refine C5 (i:=0) (v:=V (some ⟨U w,0,none⟩) 2 2) (Fe.getD 0 default) (λ_ _ _ h=>nomatch h.1) ?_;refine C5 (i:=1) (v:=J ((0:Nat):Int)) (Fe.getD 1 default) (λ_ _ _ h=>nomatch h.1) ?_;refine Cm (md:=.any) (fuel:=4) (L:=[Av 2 [] (V (some ⟨U w,0,none⟩) 2 2),Av 3 [] (J ((0:Nat):Int)),Av 4 [2,3] (.pointer (some ⟨U w,0+0*2,none⟩)),Av 5 [2,3,4] (.pointer (some ⟨U w,0+0*2+1,none⟩)),Av 6 [2,3,4,5] (V c l0.length a),Av 7 [] (Z b),⟨8,[7],[8],λvs _=>∃n d:Int,vs=[D [J n,J d]]⟩,⟨9,[7,8],[8,9],λvs u=>∃(n d:Int) (g:Nat),vs=[D [J n,J d],φ g 1 1]/\Wk w0 u [N (U w) [Y [103,114,111,115,115],V c l0.length a,Y [116,105,109,101],V l l1.length j] 96,N g [J n,J d] 47] [BV w0 b ns,CI b w,DO c a l0,DO l j l1] []⟩]) (W:=rE) (C:=λu=>Wk w0 u [N (U w) [Y [103,114,111,115,115],V c l0.length a,Y [116,105,109,101],V l l1.length j] 96] [BV w0 b ns,CI b w,DO c a l0,DO l j l1] []) (Ext:=λu u'=>∀(g:Nat) (n d:Int),Wk w0 u [N (U w) [Y [103,114,111,115,115],V c l0.length a,Y [116,105,109,101],V l l1.length j] 96,N g [J n,J d] 47] [BV w0 b ns,CI b w,DO c a l0,DO l j l1] []->Wk w0 u' [N (U w) [Y [103,114,111,115,115],V c l0.length a,Y [116,105,109,101],V l l1.length j] 96,N g [J n,J d] 47] [BV w0 b ns,CI b w,DO c a l0,DO l j l1] []) (K3.below (Below.refl _ _).drew) (λ_ _ _ _ K=>K) (λ_ _ _ h1 h2 g n d K=>h2 g n d (h1 g n d K)) ⟨?_,?_,?_,?_,?_,?_,?_,?_,trivial⟩ rfl ?_
  ·exact⟨λ_ _ _ _ _ h=>h,λvals u hu hb=>AL.knownE [] trivial (AL.reads ⟨0,[],(0,0),[]⟩ (λe he=>by cases he) (V (some ⟨U w,0,none⟩) 2 2) ⟨hu,λ_ _ _ K=>K,rfl⟩)⟩
  ·exact⟨λ_ _ _ _ _ h=>h,λvals u hu hb=>AL.knownE [] trivial (AL.reads ⟨0,[],(0,0),[]⟩ (λe he=>by cases he) (J ((0:Nat):Int)) ⟨hu,λ_ _ _ K=>K,rfl⟩)⟩
  ·refine⟨λ_ _ _ _ _ h=>h,λvals u hu hb=>?_⟩;obtain⟨h2,h3,_⟩:=hb;exact AL.knownE [(22,2,V (some ⟨U w,0,none⟩) 2 2),(23,3,J ((0:Nat):Int))] ⟨(List.cons.inj h2).1,(List.cons.inj h3).1,trivial⟩ (AL.value (BJ (sz:=2) (k:=0) (len:=2) (cap:=2) 40 (.tmp 22) (.tmp 23) (hx:=rfl) (hi:=rfl) (by decide) Tryz.underlying40) ⟨hu,λ_ _ _ K=>K,rfl⟩)
  ·refine⟨λ_ _ _ _ _ h=>h,λvals u hu hb=>?_⟩;obtain⟨h2,h3,h4,_⟩:=hb;exact AL.knownE [(24,4,.pointer (some ⟨U w,0+0*2,none⟩))] ⟨(List.cons.inj h4).1,trivial⟩ (AL.reads ⟨0,[],(0,0),[]⟩ (λe he=>by cases he) (.pointer (some ⟨U w,0+0*2+1,none⟩)) ⟨hu,λ_ _ _ K=>K,rfl⟩)
  ·refine⟨λ_ _ _ _ _ h=>h,λvals u hu hb=>?_⟩;obtain⟨h2,h3,h4,h5,_⟩:=hb;exact AL.knownE [(25,5,.pointer (some ⟨U w,0+0*2+1,none⟩))] ⟨(List.cons.inj h5).1,trivial⟩ (AL.reads ⟨0,[N (U w) [Y [103,114,111,115,115],V c l0.length a,Y [116,105,109,101],V l l1.length j] 96],(0,1),[]⟩ (λe he=>by rw[mem_singleton.1 he];exact hu.ent 0 rfl) (V c l0.length a) ⟨hu,λ_ _ _ K=>K,rfl⟩)
  ·exact⟨λ_ _ _ _ _ h=>h,λvals u hu hb=>AL.knownE [] trivial (AL.reads ⟨0,[],(0,0),[]⟩ (λe he=>by cases he) (Z b) ⟨hu,λ_ _ _ K=>K,rfl⟩)⟩
  ·refine⟨λ_ _ _ _ _ h=>h,λvals u hu hb=>?_⟩;obtain⟨h7,_⟩:=hb;refine AL.knownE [(27,7,Z b)] ⟨(List.cons.inj h7).1,trivial⟩ (AL.call (f:=31) [.tmp 27] (ats:=#[23]) rfl (Cf _ u) ((Ld b ns u (hu.tapeOk h0 0 rfl)).mono λe w' hq=>?_));have o:=F3.ok _ _ hq;have Kt:=hu.tick h0 0 rfl o.1 o.2;obtain⟨n,d,rfl,_,_⟩:=hq;exact⟨_,rfl,Kt,λ_ _ _ K=>K.tick h0 0 rfl o.1 o.2,n,d,rfl⟩
  ·refine⟨λvs u u' _ hE h=>?_,λvals u hu hb=>?_⟩
   ·obtain⟨n,d,g,hv,K⟩:=h;exact⟨n,d,g,hv,hE g n d K⟩
   obtain⟨_,⟨n,d,h8⟩,_⟩:=hb;refine AL.knownE [(28,8,D [J n,J d])] ⟨(List.cons.inj h8).1,trivial⟩ (AL.runsK ⟨U u,[],(0,0),[]⟩ ⟨U u+1,[N (U u) [J n,J d] 47],(0,0),[]⟩ (.value (V (some ⟨U u,0,none⟩) 1 1)) (V (some ⟨U u,0,none⟩) 1 1) (.inl rfl) (CQ u) rfl λw' hL hK=>?_);have B:Below (U u) u w':=Ch hK;have H:AY (U u) w' ([N (U u) [J n,J d] 47].map Th.ent++[]):=AY.run (M:=[]) (AY.nil (Nat.le_refl _)) hL hK rfl;exact⟨hu.below B,λ_ _ _ K=>K.below B,n,d,U u,by rw[<-(List.cons.inj h8).1];rfl,hu.joinE B H⟩
  intro vals w3 _ _ t;obtain⟨_,_,_,_,x6,_,_,⟨r,x,gn,x8,y⟩,_⟩:=t;refine Bk [(0,Z b),(3,V (some ⟨U w,0,none⟩) 2 2),(4,J ((0:Nat):Int)),(5,J ((k+1:Nat):Int)),(20,V (some ⟨U w,0,none⟩) 2 2),(21,J ((0:Nat):Int)),(26,vals 6),(29,vals 9)] λE9=>?_;rw[show vals 6=V c l0.length a from(List.cons.inj x6).1,show vals 9=φ gn 1 1 from(List.cons.inj (List.cons.inj x8).2).1];obtain⟨A2,c2,w5,a0,H5,b5⟩:=Mh (k:=54) (E:=_) y.H (y.ix 2) (y.at 2 rfl) (r,x) [J r,J x] rfl gn (y.ent 1 rfl) (Fe.getD 10 default) (.tmp 26) (.tmp 29) 45 (by kernel_rfl) (by kernel_rfl) (by kernel_rfl) (by decide) (by kernel_rfl) (by kernel_rfl) rfl rfl (by omega);refine I4 (i:=10) (fuel:=3) (Fe.getD 10 default) a0 ?_;have K5:=y.put 2 (by simp) b5 H5;refine I4 (i:=11) (fuel:=2) (Fe.getD 11 default) (BJ (g:=(U w)) (off:=0) (sz:=2) (k:=0) (len:=2) (cap:=2) 40 (.tmp 20) (.tmp 21) (by decide) Tryz.underlying40) ?_;refine Dy (i:=12) K5 (Fe.getD 12 default) (0,0) (.pointer (some ⟨U w,0+0*2+1,none⟩)) λw6 K6=>?_;refine Jf (i:=13) K6 (Fe.getD 13 default) [N (U w) [Y [103,114,111,115,115],V A2 (l0++[(r,x)]).length c2,Y [116,105,109,101],V l l1.length j] 96,N gn [J r,J x] 47] (0,1) undef λw7 K7=>?_;refine Dm ⟨rfl,At.mid ?_⟩;refine AC (Ab OR) K7 [] λw8 K8=>?_;refine AX [(0,Z b),(3,V (some ⟨U w,0,none⟩) 2 2),(4,J ((0:Nat):Int)),(5,J (IntKind.i64.wrap (((k+1:Nat):Int)-1)))] λE8=>?_;rw[show IntKind.i64.wrap (((k+1:Nat):Int)-1)=(k:Int) by rw[IntWalk.i64_in _ (by omega)];omega];refine p _ _ ⟨k,A2,l0++[(r,x)],c2,l,l1,j,E8,rfl,by rw[length_append,length_singleton];omega,K8.pk [0] [0,1,2,3]⟩ ?_;show AP (J ((k:Nat):Int))<AP (J ((k+1:Nat):Int));simp only[AP];omega
 have b0:k=0:=by have:=of_decide_eq_false cc;omega
 subst b0;refine AC (Ab OS) K2 [] λw3 K3=>?_;refine AX [(0,Z b),(3,V (some ⟨U w,0,none⟩) 2 2),(4,J (IntKind.i64.wrap (((0:Nat):Int)+1)))] λE3=>?_;rw[Bs 0 (by omega)];exact s c l0 a l l1 j E3 w3 (by omega) (by omega) hI.2.2 K3
theorem qW {b:Nat} {ns:List Int} {w0 w:World} {R:Ending->World->Prop} (h0:(U w0)=b) (d0:b<(U w)) {l c:Option Addr} {j a:Nat} {l0 l1:List (Int×Int)} {k:Nat} (x:1<=l1.length+k/\l1.length+k<=4/\1<=l0.length/\l0.length<=4) (E0:Nat->Value) (q:World) (K0:Wk w0 q [N (U w) [Y [103,114,111,115,115],V l l0.length j,Y [116,105,109,101],V c l1.length a] 96] [BV w0 b ns,CI b w,DO l j l0,DO c a l1] [])
  (s:∀(l:Option Addr) (l0:List (Int×Int)) (j:Nat) (c:Option Addr) (l1:List (Int×Int)) (a:Nat) (E:Nat->Value) (wy:World),1<=l1.length->l1.length<=4->1<=l0.length->l0.length<=4->Wk w0 wy [N (U w) [Y [103,114,111,115,115],V l l0.length j,Y [116,105,109,101],V c l1.length a] 96] [BV w0 b ns,CI b w,DO l j l0,DO c a l1] []->At Tryz.prog 9 R (Ab OS) (Fr 54 (BN E [(0,Z b),(3,V (some ⟨U w,0,none⟩) 2 2),(4,J ((2:Nat):Int))])) wy) :
  At Tryz.prog 9 R OR (Fr 54 (BN E0 [(0,Z b),(3,V (some ⟨U w,0,none⟩) 2 2),(4,J ((1:Nat):Int)),(5,J (k:Int))])) q:=by
 refine Bp (by kernel_rfl) (λE q=>∃(k:Nat) (l:Option Addr) (l0:List (Int×Int)) (j:Nat) (c:Option Addr) (l1:List (Int×Int)) (a:Nat) (E0:Nat->Value),E=BN E0 [(0,Z b),(3,V (some ⟨U w,0,none⟩) 2 2),(4,J ((1:Nat):Int)),(5,J (k:Int))]/\(1<=l1.length+k/\l1.length+k<=4/\1<=l0.length/\l0.length<=4)/\Wk w0 q [N (U w) [Y [103,114,111,115,115],V l l0.length j,Y [116,105,109,101],V c l1.length a] 96] [BV w0 b ns,CI b w,DO l j l0,DO c a l1] []) (λE _=>AP (E 5)) ⟨k,l,l0,j,c,l1,a,E0,rfl,x,K0⟩ ?_;clear K0 x;rintro E q ⟨k,l,l0,j,c,l1,a,E0,rfl,x,K1⟩ p;refine AC cP K1 [] λw2 K2=>?_;refine AH (decide (0<(k:Int))) (λcc=>?_) (λcc=>?_)
 ·obtain⟨k,rfl⟩:∃m,k=m+1:=⟨k-1,by have:=of_decide_eq_true cc;omega⟩;refine Al 8 cO K2 [] λw3 K3=>?_;refine DK Fe 14 ?_;refine C5 (i:=0) (v:=V (some ⟨U w,0,none⟩) 2 2) (Fe.getD 0 default) (λ_ _ _ h=>nomatch h.1) ?_;refine C5 (i:=1) (v:=J ((1:Nat):Int)) (Fe.getD 1 default) (λ_ _ _ h=>nomatch h.1) ?_;refine Cm (md:=.any) (fuel:=4) (L:=[Av 2 [] (V (some ⟨U w,0,none⟩) 2 2),Av 3 [] (J ((1:Nat):Int)),Av 4 [2,3] (.pointer (some ⟨U w,0+1*2,none⟩)),Av 5 [2,3,4] (.pointer (some ⟨U w,0+1*2+1,none⟩)),Av 6 [2,3,4,5] (V c l1.length a),Av 7 [] (Z b),⟨8,[7],[8],λvs _=>∃n d:Int,vs=[D [J n,J d]]⟩,⟨9,[7,8],[8,9],λvs u=>∃(n d:Int) (g:Nat),vs=[D [J n,J d],φ g 1 1]/\Wk w0 u [N (U w) [Y [103,114,111,115,115],V l l0.length j,Y [116,105,109,101],V c l1.length a] 96,N g [J n,J d] 47] [BV w0 b ns,CI b w,DO l j l0,DO c a l1] []⟩]) (W:=rE) (C:=λu=>Wk w0 u [N (U w) [Y [103,114,111,115,115],V l l0.length j,Y [116,105,109,101],V c l1.length a] 96] [BV w0 b ns,CI b w,DO l j l0,DO c a l1] []) (Ext:=λu u'=>∀(g:Nat) (n d:Int),Wk w0 u [N (U w) [Y [103,114,111,115,115],V l l0.length j,Y [116,105,109,101],V c l1.length a] 96,N g [J n,J d] 47] [BV w0 b ns,CI b w,DO l j l0,DO c a l1] []->Wk w0 u' [N (U w) [Y [103,114,111,115,115],V l l0.length j,Y [116,105,109,101],V c l1.length a] 96,N g [J n,J d] 47] [BV w0 b ns,CI b w,DO l j l0,DO c a l1] []) (K3.below (Below.refl _ _).drew) (λ_ _ _ _ K=>K) (λ_ _ _ h1 h2 g n d K=>h2 g n d (h1 g n d K)) ⟨?_,?_,?_,?_,?_,?_,?_,?_,trivial⟩ rfl ?_
  ·exact⟨λ_ _ _ _ _ h=>h,λvals u hu hb=>AL.knownE [] trivial (AL.reads ⟨0,[],(0,0),[]⟩ (λe he=>by cases he) (V (some ⟨U w,0,none⟩) 2 2) ⟨hu,λ_ _ _ K=>K,rfl⟩)⟩
  ·exact⟨λ_ _ _ _ _ h=>h,λvals u hu hb=>AL.knownE [] trivial (AL.reads ⟨0,[],(0,0),[]⟩ (λe he=>by cases he) (J ((1:Nat):Int)) ⟨hu,λ_ _ _ K=>K,rfl⟩)⟩
  ·refine⟨λ_ _ _ _ _ h=>h,λvals u hu hb=>?_⟩;obtain⟨h2,h3,_⟩:=hb;exact AL.knownE [(22,2,V (some ⟨U w,0,none⟩) 2 2),(23,3,J ((1:Nat):Int))] ⟨(List.cons.inj h2).1,(List.cons.inj h3).1,trivial⟩ (AL.value (BJ (sz:=2) (k:=1) (len:=2) (cap:=2) 40 (.tmp 22) (.tmp 23) (hx:=rfl) (hi:=rfl) (by decide) Tryz.underlying40) ⟨hu,λ_ _ _ K=>K,rfl⟩)
  ·refine⟨λ_ _ _ _ _ h=>h,λvals u hu hb=>?_⟩;obtain⟨h2,h3,h4,_⟩:=hb;exact AL.knownE [(24,4,.pointer (some ⟨U w,0+1*2,none⟩))] ⟨(List.cons.inj h4).1,trivial⟩ (AL.reads ⟨0,[],(0,0),[]⟩ (λe he=>by cases he) (.pointer (some ⟨U w,0+1*2+1,none⟩)) ⟨hu,λ_ _ _ K=>K,rfl⟩)
  ·refine⟨λ_ _ _ _ _ h=>h,λvals u hu hb=>?_⟩;obtain⟨h2,h3,h4,h5,_⟩:=hb;exact AL.knownE [(25,5,.pointer (some ⟨U w,0+1*2+1,none⟩))] ⟨(List.cons.inj h5).1,trivial⟩ (AL.reads ⟨0,[N (U w) [Y [103,114,111,115,115],V l l0.length j,Y [116,105,109,101],V c l1.length a] 96],(0,3),[]⟩ (λe he=>by rw[mem_singleton.1 he];exact hu.ent 0 rfl) (V c l1.length a) ⟨hu,λ_ _ _ K=>K,rfl⟩)
  ·exact⟨λ_ _ _ _ _ h=>h,λvals u hu hb=>AL.knownE [] trivial (AL.reads ⟨0,[],(0,0),[]⟩ (λe he=>by cases he) (Z b) ⟨hu,λ_ _ _ K=>K,rfl⟩)⟩
  ·refine⟨λ_ _ _ _ _ h=>h,λvals u hu hb=>?_⟩;obtain⟨h7,_⟩:=hb;refine AL.knownE [(27,7,Z b)] ⟨(List.cons.inj h7).1,trivial⟩ (AL.call (f:=31) [.tmp 27] (ats:=#[23]) rfl (Cf _ u) ((Ld b ns u (hu.tapeOk h0 0 rfl)).mono λe w' hq=>?_));have o:=F3.ok _ _ hq;have Kt:=hu.tick h0 0 rfl o.1 o.2;obtain⟨n,d,rfl,_,_⟩:=hq;exact⟨_,rfl,Kt,λ_ _ _ K=>K.tick h0 0 rfl o.1 o.2,n,d,rfl⟩
  ·refine⟨λvs u u' _ hE h=>?_,λvals u hu hb=>?_⟩
   ·obtain⟨n,d,g,hv,K⟩:=h;exact⟨n,d,g,hv,hE g n d K⟩
   obtain⟨_,⟨n,d,h8⟩,_⟩:=hb;refine AL.knownE [(28,8,D [J n,J d])] ⟨(List.cons.inj h8).1,trivial⟩ (AL.runsK ⟨U u,[],(0,0),[]⟩ ⟨U u+1,[N (U u) [J n,J d] 47],(0,0),[]⟩ (.value (V (some ⟨U u,0,none⟩) 1 1)) (V (some ⟨U u,0,none⟩) 1 1) (.inl rfl) (CQ u) rfl λw' hL hK=>?_);have B:Below (U u) u w':=Ch hK;have H:AY (U u) w' ([N (U u) [J n,J d] 47].map Th.ent++[]):=AY.run (M:=[]) (AY.nil (Nat.le_refl _)) hL hK rfl;exact⟨hu.below B,λ_ _ _ K=>K.below B,n,d,U u,by rw[<-(List.cons.inj h8).1];rfl,hu.joinE B H⟩
  intro vals w3 _ _ t;obtain⟨_,_,_,_,x6,_,_,⟨r,y,gn,x8,z⟩,_⟩:=t;refine Bk [(0,Z b),(3,V (some ⟨U w,0,none⟩) 2 2),(4,J ((1:Nat):Int)),(5,J ((k+1:Nat):Int)),(20,V (some ⟨U w,0,none⟩) 2 2),(21,J ((1:Nat):Int)),(26,vals 6),(29,vals 9)] λE9=>?_;rw[show vals 6=V c l1.length a from(List.cons.inj x6).1,show vals 9=φ gn 1 1 from(List.cons.inj (List.cons.inj x8).2).1];obtain⟨A2,c2,w5,a0,H5,b5⟩:=Mh (k:=54) (E:=_) z.H (z.ix 3) (z.at 3 rfl) (r,y) [J r,J y] rfl gn (z.ent 1 rfl) (Fe.getD 10 default) (.tmp 26) (.tmp 29) 45 (by kernel_rfl) (by kernel_rfl) (by kernel_rfl) (by decide) (by kernel_rfl) (by kernel_rfl) rfl rfl (by omega);refine I4 (i:=10) (fuel:=3) (Fe.getD 10 default) a0 ?_;have K5:=z.put 3 (by simp) b5 H5;refine I4 (i:=11) (fuel:=2) (Fe.getD 11 default) (BJ (g:=(U w)) (off:=0) (sz:=2) (k:=1) (len:=2) (cap:=2) 40 (.tmp 20) (.tmp 21) (by decide) Tryz.underlying40) ?_;refine Dy (i:=12) K5 (Fe.getD 12 default) (0,0) (.pointer (some ⟨U w,0+1*2+1,none⟩)) λw6 K6=>?_;refine Jf (i:=13) K6 (Fe.getD 13 default) [N (U w) [Y [103,114,111,115,115],V l l0.length j,Y [116,105,109,101],V A2 (l1++[(r,y)]).length c2] 96,N gn [J r,J y] 47] (0,3) undef λw7 K7=>?_;refine Dm ⟨rfl,At.mid ?_⟩;refine AC (Ab OR) K7 [] λw8 K8=>?_;refine AX [(0,Z b),(3,V (some ⟨U w,0,none⟩) 2 2),(4,J ((1:Nat):Int)),(5,J (IntKind.i64.wrap (((k+1:Nat):Int)-1)))] λE8=>?_;rw[show IntKind.i64.wrap (((k+1:Nat):Int)-1)=(k:Int) by rw[IntWalk.i64_in _ (by omega)];omega];refine p _ _ ⟨k,l,l0,j,A2,l1++[(r,y)],c2,E8,rfl,by rw[length_append,length_singleton];omega,K8.pk [0] [0,1,2,3]⟩ ?_;show AP (J ((k:Nat):Int))<AP (J ((k+1:Nat):Int));simp only[AP];omega
 have b0:k=0:=by have:=of_decide_eq_false cc;omega
 subst b0;refine AC (Ab OS) K2 [] λw3 K3=>?_;refine AX [(0,Z b),(3,V (some ⟨U w,0,none⟩) 2 2),(4,J (IntKind.i64.wrap (((1:Nat):Int)+1)))] λE3=>?_;rw[Bs 1 (by omega)];exact s l l0 j c l1 a E3 w3 (by omega) (by omega) x.2.2.1 x.2.2.2 K3
theorem qY (b:Nat) (ns:List Int) (w:World) (hT:Br b ns w):Calls Tryz.prog 9 ([Z b]:List Value).toArray w λe w'=>∃A c,∃pa:List IY,∃L':List Th,e=.returned (V A pa.length c)/\pa.length<=2/\(∀x∈pa,x.2.length<=4)/\L'.length=3/\AY (U w) w' L'/\(∀(n:Nat) (u:World),AY n u L'->Gn u A pa)/\Br b ns w'/\CU b w w':=by
 refine AS (fn:=Tryz.f9) (c:=aN) (n:=54) ?_;obtain⟨w0,j,K0⟩:=Wk.tape hT;have hw:=K0.B;have d0:=hT.lt;refine An OS [N (U w) [Y [103,114,111,115,115],V none 0 0,Y [116,105,109,101],V none 0 0] 96] K0 [] λw1 K1=>?_;have K2:=(K1.addNil 47 2 (λ(e:Int×Int) r=>r=BD e)).addNil 47 2 (λ(e:Int×Int) r=>r=BD e);refine AX [(0,Z b),(3,V (some ⟨U w,0,none⟩) 2 2),(4,J ((0:Nat):Int))] λE1=>?_;refine Bp (by kernel_rfl) (λE wx=>∃(i:Nat) (A0:Option Addr) (l0:List (Int×Int)) (m:Nat) (A1:Option Addr) (l1:List (Int×Int)) (l:Nat) (E0:Nat->Value),E=BN E0 [(0,Z b),(3,V (some ⟨U w,0,none⟩) 2 2),(4,J (i:Int))]/\((i=0/\l0.length=0/\l1.length=0)\/(i=1/\1<=l0.length/\l0.length<=4/\l1.length=0)\/(i=2/\1<=l0.length/\l0.length<=4/\1<=l1.length/\l1.length<=4))/\Wk w0 wx [N (U w) [Y [103,114,111,115,115],V A0 l0.length m,Y [116,105,109,101],V A1 l1.length l] 96] [BV w0 b ns,CI b w,DO A0 m l0,DO A1 l l1] []) (λE _=>2-AP (E 4)) ⟨0,none,[],0,none,[],0,E1,rfl,.inl ⟨rfl,rfl,rfl⟩,K2⟩ ?_;clear K0 K1 K2;rintro E wx ⟨i,A0,l0,m,A1,l1,l,E0,rfl,hI,K1⟩ s;refine AC cQ K1 [] λw2 K2=>?_;refine AH (decide ((i:Int)<2)) (λcc=>?_) (λcc=>?_)
 ·refine AC sQ K2 [] λw3 K3=>?_;refine BS K3 j 0 rfl (Be b ns 4 w3 (K3.tapeOk j 0 rfl) (by omega) (by omega)) Bl.ok λe w4 v K4=>?_;obtain⟨k,hk,rfl,_,_⟩:=v;refine⟨_,rfl,?_⟩;have r0:k<=3:=by omega
  refine AC OR K4 [] λw5 K5=>?_;refine AX [(0,Z b),(3,V (some ⟨U w,0,none⟩) 2 2),(4,J (i:Int)),(5,J (IntKind.i64.wrap (1+(k:Int))))] λE5=>?_;rw[show IntKind.i64.wrap (1+(k:Int))=((k+1:Nat):Int) by rw[IntWalk.i64_in _ (by omega)];omega];rcases hI with⟨rfl,h1,h2⟩ | ⟨rfl,h1,h2,h3⟩ | ⟨rfl,_⟩
  ·refine qX j d0 ⟨by omega,by omega,h2⟩ E5 w5 K5 λA0 l0 m A1 l1 l E6 w6 z g2 g3 K6=>?_;refine s _ _ ⟨1,A0,l0,m,A1,l1,l,E6,rfl,.inr (.inl ⟨rfl,z,g2,g3⟩),K6⟩ ?_;show 2-AP (J ((1:Nat):Int))<2-AP (J ((0:Nat):Int));decide
  ·refine qW j d0 ⟨by omega,by omega,h1,h2⟩ E5 w5 K5 λA0 l0 m A1 l1 l E6 w6 z g2 g3 g4 K6=>?_;refine s _ _ ⟨2,A0,l0,m,A1,l1,l,E6,rfl,.inr (.inr ⟨rfl,g3,g4,z,g2⟩),K6⟩ ?_;show 2-AP (J ((2:Nat):Int))<2-AP (J ((1:Nat):Int));decide
  exact absurd cc (by decide)
 have m0:1<=l0.length/\l0.length<=4/\1<=l1.length/\l1.length<=4:=by have:=of_decide_eq_false cc;omega
 clear hI s;obtain⟨e1,e2,e3,e4⟩:=m0;refine AC sP K2 [] λw3 K3=>?_;refine BS K3 j 0 rfl (Be b ns 10 w3 (K3.tapeOk j 0 rfl) (by omega) (by omega)) Bl.ok λe w4 v K4=>?_;obtain⟨k,hk,rfl,_,_⟩:=v;refine⟨_,rfl,?_⟩;refine AC cN K4 [] λw5 K5=>?_;refine AH ((k:Int)==8) (λq0=>?_) (λq0=>?_)
 ·refine AC cM K5 [] λw6 K6=>?_;refine BS K6 j 0 rfl (Be b ns 2 w6 (K6.tapeOk j 0 rfl) (by omega) (by omega)) Bl.ok λe w7 v K7=>?_;obtain⟨q,k0,rfl,_,_⟩:=v;refine⟨_,rfl,?_⟩;have j0:q<2:=by omega
  refine Ao Aa sO K7 [] λw8 K8=>?_;refine Aw (g:=(U w)) (off:=0) (cap:=2) (sz:=2) (k:=q) (len:=2) (some 40) j0 Tryz.underlying40 ?_;have K9:=K8.addNil 47 2 (λ(e:Int×Int) r=>r=BD e);have p:q=0\/q=1:=by omega
  rcases p with rfl | rfl
  ·refine An ir [N (U w) [Y [103,114,111,115,115],V none 0 0,Y [116,105,109,101],V A1 l1.length l] 96] K9 [(0,1)] λa0 a=>?_;exact AN a (0,0) (V (some ⟨U w,0,none⟩) 2 2) (LB (l0:=[]) (a.pk [0] [0,1,4,3]) j hw (by simp) e4)
  refine An ir [N (U w) [Y [103,114,111,115,115],V A0 l0.length m,Y [116,105,109,101],V none 0 0] 96] K9 [(0,3)] λa0 a=>?_;exact AN a (0,0) (V (some ⟨U w,0,none⟩) 2 2) (LB (l1:=[]) (a.pk [0] [0,1,2,4]) j hw e2 (by simp))
 refine AC U9 K5 [] λw6 K6=>?_;refine AH ((k:Int)==9) (λp0=>?_) (λp0=>?_)
 ·refine Al 13 U8 K6 [] λw7 K7=>?_;obtain⟨x0,t0,rfl⟩:∃x t,l0=x::t:=by cases l0 with | nil=>simp at e1 | cons x t=>exact⟨x,t,rfl⟩
  obtain⟨x1,t1,rfl⟩:∃x t,l1=x::t:=by cases l1 with | nil=>simp at e3 | cons x t=>exact⟨x,t,rfl⟩
  obtain⟨g0,rfl,_⟩:=K7.H.rowAt (K7.ix 2) (K7.at 2 rfl) (by simp);obtain⟨z,rfl,_⟩:=K7.H.rowAt (K7.ix 3) (K7.at 3 rfl) (by simp);refine DK JY 10 ?_;refine Cm (md:=.any) (fuel:=2) (L:=[Av 0 [] (V (some ⟨U w,0,none⟩) 2 2),Av 1 [] (Z b),⟨2,[1],[2],λvs _=>vs=[J ((0:Nat):Int)]\/vs=[J ((1:Nat):Int)]⟩,⟨3,[0,1,2],[2,3],λvs _=>(vs=[J ((0:Nat):Int),.pointer (some ⟨U w,0+0*2,none⟩)]\/vs=[J ((1:Nat):Int),.pointer (some ⟨U w,0+1*2,none⟩)])⟩,⟨4,[0,1,2,3],[2,4],λvs _=>(vs=[J ((0:Nat):Int),.pointer (some ⟨U w,0+0*2+1,none⟩)]\/vs=[J ((1:Nat):Int),.pointer (some ⟨U w,0+1*2+1,none⟩)])⟩,⟨5,[0,1,2,3,4],[2,5],λvs _=>(vs=[J ((0:Nat):Int),φ g0 (x0::t0).length m]\/vs=[J ((1:Nat):Int),φ z (x1::t1).length l])⟩,Av 6 [] (Z b),⟨7,[1,2,6],[7],λvs _=>∃n d:Int,vs=[D [J n,J d]]⟩]) (W:=yA) (C:=λu=>Wk w0 u [N (U w) [Y [103,114,111,115,115],φ g0 (x0::t0).length m,Y [116,105,109,101],φ z (x1::t1).length l] 96] [BV w0 b ns,CI b w,DO (θ g0) m (x0::t0),DO (θ z) l (x1::t1)] []) (Ext:=λ_ _=>True) (K7.below (Below.refl _ _).drew) (λ_=>trivial) (λ_ _ _ _ _=>trivial) ⟨?_,?_,?_,?_,?_,?_,?_,?_,trivial⟩ rfl ?_
  ·exact⟨λ_ _ _ _ _ h=>h,λvals u hu hb=>AL.knownE [] trivial (AL.reads ⟨0,[],(0,0),[]⟩ (λe he=>by cases he) (V (some ⟨U w,0,none⟩) 2 2) ⟨hu,trivial,rfl⟩)⟩
  ·exact⟨λ_ _ _ _ _ h=>h,λvals u hu hb=>AL.knownE [] trivial (AL.reads ⟨0,[],(0,0),[]⟩ (λe he=>by cases he) (Z b) ⟨hu,trivial,rfl⟩)⟩
  ·refine⟨λ_ _ _ _ _ h=>h,λvals u hu hb=>?_⟩;obtain⟨h1,_⟩:=hb;refine AL.knownE [(45,1,Z b)] ⟨(List.cons.inj h1).1,trivial⟩ (AL.call (f:=22) [.tmp 45,.const (J 2)] (ats:=#[23,3]) rfl (Cf _ u) ((Be b ns 2 u (hu.tapeOk j 0 rfl) (by omega) (by omega)).mono λe w' v=>?_));have Kt:=hu.tick j 0 rfl (Bl.ok _ _ v).1 (Bl.ok _ _ v).2;obtain⟨q,k0,rfl,_,_⟩:=v;have p:q=0\/q=1:=by omega
   rcases p with rfl | rfl
   ·exact⟨_,rfl,Kt,trivial,.inl rfl⟩
   exact⟨_,rfl,Kt,trivial,.inr rfl⟩
  ·refine⟨λ_ _ _ _ _ h=>h,λvals u hu hb=>?_⟩;obtain⟨i0,h1,h2,_⟩:=hb;rcases h2 with h2 | h2
   ·exact AL.knownE [(44,0,V (some ⟨U w,0,none⟩) 2 2),(46,2,J ((0:Nat):Int))] ⟨(List.cons.inj i0).1,(List.cons.inj h2).1,trivial⟩ (AL.value (BJ (sz:=2) (k:=0) (len:=2) (cap:=2) 40 (.tmp 44) (.tmp 46) (hx:=rfl) (hi:=rfl) (by decide) Tryz.underlying40) ⟨hu,trivial,.inl (by rw[<-(List.cons.inj h2).1];rfl)⟩)
   exact AL.knownE [(44,0,V (some ⟨U w,0,none⟩) 2 2),(46,2,J ((1:Nat):Int))] ⟨(List.cons.inj i0).1,(List.cons.inj h2).1,trivial⟩ (AL.value (BJ (sz:=2) (k:=1) (len:=2) (cap:=2) 40 (.tmp 44) (.tmp 46) (hx:=rfl) (hi:=rfl) (by decide) Tryz.underlying40) ⟨hu,trivial,.inr (by rw[<-(List.cons.inj h2).1];rfl)⟩)
  ·refine⟨λ_ _ _ _ _ h=>h,λvals u hu hb=>?_⟩;obtain⟨_,_,_,h3,_⟩:=hb;rcases h3 with h3 | h3
   ·exact AL.knownE [(47,3,.pointer (some ⟨U w,0+0*2,none⟩))] ⟨(List.cons.inj (List.cons.inj h3).2).1,trivial⟩ (AL.reads ⟨0,[],(0,0),[]⟩ (λe he=>by cases he) (.pointer (some ⟨U w,0+0*2+1,none⟩)) ⟨hu,trivial,.inl (by rw[<-(List.cons.inj h3).1];rfl)⟩)
   exact AL.knownE [(47,3,.pointer (some ⟨U w,0+1*2,none⟩))] ⟨(List.cons.inj (List.cons.inj h3).2).1,trivial⟩ (AL.reads ⟨0,[],(0,0),[]⟩ (λe he=>by cases he) (.pointer (some ⟨U w,0+1*2+1,none⟩)) ⟨hu,trivial,.inr (by rw[<-(List.cons.inj h3).1];rfl)⟩)
  ·refine⟨λ_ _ _ _ _ h=>h,λvals u hu hb=>?_⟩;obtain⟨_,_,_,_,h4,_⟩:=hb;rcases h4 with h4 | h4
   ·exact AL.knownE [(48,4,.pointer (some ⟨U w,0+0*2+1,none⟩))] ⟨(List.cons.inj (List.cons.inj h4).2).1,trivial⟩ (AL.reads ⟨0,[N (U w) [Y [103,114,111,115,115],φ g0 (x0::t0).length m,Y [116,105,109,101],φ z (x1::t1).length l] 96],(0,1),[]⟩ (λe he=>by rw[mem_singleton.1 he];exact hu.ent 0 rfl) (φ g0 (x0::t0).length m) ⟨hu,trivial,.inl (by rw[<-(List.cons.inj h4).1];rfl)⟩)
   exact AL.knownE [(48,4,.pointer (some ⟨U w,0+1*2+1,none⟩))] ⟨(List.cons.inj (List.cons.inj h4).2).1,trivial⟩ (AL.reads ⟨0,[N (U w) [Y [103,114,111,115,115],φ g0 (x0::t0).length m,Y [116,105,109,101],φ z (x1::t1).length l] 96],(0,3),[]⟩ (λe he=>by rw[mem_singleton.1 he];exact hu.ent 0 rfl) (φ z (x1::t1).length l) ⟨hu,trivial,.inr (by rw[<-(List.cons.inj h4).1];rfl)⟩)
  ·exact⟨λ_ _ _ _ _ h=>h,λvals u hu hb=>AL.knownE [] trivial (AL.reads ⟨0,[],(0,0),[]⟩ (λe he=>by cases he) (Z b) ⟨hu,trivial,rfl⟩)⟩
  ·refine⟨λ_ _ _ _ _ h=>h,λvals u hu hb=>?_⟩;obtain⟨_,_,h6,_⟩:=hb;refine AL.knownE [(50,6,Z b)] ⟨(List.cons.inj h6).1,trivial⟩ (AL.call (f:=32) [.tmp 50] (ats:=#[23]) rfl (Cf _ u) ((OA b ns u (hu.tapeOk j 0 rfl)).mono λe w' v=>?_));have Kt:=hu.tick j 0 rfl (F3.ok _ _ v).1 (F3.ok _ _ v).2;obtain⟨n,d,rfl,_,_⟩:=v;exact⟨_,rfl,Kt,trivial,n,d,rfl⟩
  intro vals w8 K8 _ e0;obtain⟨_,_,x2,_,_,x5,_,⟨nn,dd,x7⟩,_⟩:=e0;refine Bk [(3,V (some ⟨U w,0,none⟩) 2 2),(49,vals 5),(51,vals 7)] λE9=>?_;rw[show vals 7=D [J nn,J dd]from(List.cons.inj x7).1];rcases x5 with x5 | x5
  ·rw[show vals 5=φ g0 (x0::t0).length m from(List.cons.inj (List.cons.inj x5).2).1];refine I4 (i:=8) (fuel:=1) (JY.getD 8 default) (BJ (g:=g0) (off:=0) (sz:=2) (k:=0) (len:=(x0::t0).length) (cap:=m) 45 (.tmp 49) (.const (J 0)) (Nat.succ_pos _) Tryz.underlying45) ?_;obtain⟨w9,b0,H9,b9⟩:=RC (ρ:=BK 54 _) (o:=JY.getD 9 default) (f:=BD) (e':=(nn,dd)) (λ_=>rfl) K8.H (K8.ix 2) (K8.at 2 rfl) (t:=47) (x:=.tmp 52) (y:=.tmp 51) (by kernel_rfl) (by kernel_rfl) (by kernel_rfl) (by kernel_rfl) rfl;refine On (i:=9) (fuel:=0) (JY.getD 9 default) (by kernel_rfl) (by kernel_rfl) (by kernel_rfl) b0 (Dm ⟨rfl,At.mid ?_⟩);have K9:=K8.put 2 (by simp) b9 H9;refine AC iq K9 [] λa0 a=>?_;exact AN a (0,0) (V (some ⟨U w,0,none⟩) 2 2) (LB (l0:=(nn,dd)::t0) (l1:=x1::t1) (a.pk [0] [0,1,2,3]) j hw e2 e4)
  rw[show vals 5=φ z (x1::t1).length l from(List.cons.inj (List.cons.inj x5).2).1];refine I4 (i:=8) (fuel:=1) (JY.getD 8 default) (BJ (g:=z) (off:=0) (sz:=2) (k:=0) (len:=(x1::t1).length) (cap:=l) 45 (.tmp 49) (.const (J 0)) (Nat.succ_pos _) Tryz.underlying45) ?_;obtain⟨w9,b0,H9,b9⟩:=RC (ρ:=BK 54 _) (o:=JY.getD 9 default) (f:=BD) (e':=(nn,dd)) (λ_=>rfl) K8.H (K8.ix 3) (K8.at 3 rfl) (t:=47) (x:=.tmp 52) (y:=.tmp 51) (by kernel_rfl) (by kernel_rfl) (by kernel_rfl) (by kernel_rfl) rfl;refine On (i:=9) (fuel:=0) (JY.getD 9 default) (by kernel_rfl) (by kernel_rfl) (by kernel_rfl) b0 (Dm ⟨rfl,At.mid ?_⟩);have K9:=K8.put 3 (by simp) b9 H9;refine AC iq K9 [] λa0 a=>?_;exact AN a (0,0) (V (some ⟨U w,0,none⟩) 2 2) (LB (l0:=x0::t0) (l1:=(nn,dd)::t1) (a.pk [0] [0,1,2,3]) j hw e2 e4)
 refine AC yj K6 [] λw7 K7=>?_;exact AN K7 (0,0) (V (some ⟨U w,0,none⟩) 2 2) (LB K7 j hw e2 e4)
end
end Go.Proofs.YtkpemkkbjfbmaaaGreat

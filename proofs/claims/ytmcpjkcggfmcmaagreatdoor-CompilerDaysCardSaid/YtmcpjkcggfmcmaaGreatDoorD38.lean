/-
  Part 38 of a proof: contracts of functions.
-/
import Derived.Test.YtmcpjkcggfmcmaaGreatDoorD37
set_option linter.all false
namespace Go.Proofs.YtmcpjkcggfmcmaaGreatDoor
set_option maxRecDepth 100000
theorem J5 {ds:List Df} {p:Int} {i:Nat}:∀ (es:List Df) (k:Nat) (b:Bool),(∀ e∈es,e.frm≠p + 1)→Cg ds p i es k b=Cg ds (p + 1) i es k b
 | [],k,b,_=>by rw [Cg,Cg]
 | e :: es,k,b,h=>by
  have c:=h e (by simp)
  rw [Cg,Cg,J5 es (k + 1) b (fun x a=>h x (by simp [a])),show decide (p < e.frm)=decide (p + 1 < e.frm) from decide_eq_decide.2 (by omega)]
theorem RZ {ds:List Df} {p:Int} {i:Nat} (h:∀ e∈ds,e.frm≠p + 1):Ek ds p i=Ek ds (p + 1) i:=J5 ds 0 false h
theorem LT {ds:List Df} {p:Int} (hd:∀ e∈ds,e.frm≠p + 1):∀ (es:List Df) (k:Nat) (a:List Nat),(∀ e∈es,e.frm≠p + 1)→CQ ds p es k a=CQ ds (p + 1) es k a
 | [],k,a,_=>by rw [CQ,CQ]
 | e :: es,k,a,h=>by
  have d:=h e (by simp)
  have b:=fun a=>LT hd es (k + 1) a (fun x c=>h x (by simp [c]))
  rw [CQ,CQ,b,b,RZ hd,show decide (e.frm≤p)=decide (e.frm≤p + 1) from decide_eq_decide.2 (by omega)]
theorem Kt {ds:List Df} {p:Int} (hd:∀ e∈ds,e.frm≠p + 1):BC ds p=BC ds (p + 1):=LT hd ds 0 [] hd
theorem Ny {n:List UInt8} {ds:List Df} {p:Int} (b:0≤p) (a:p + 1≤84005):EF n ds p=EF n ds (p + 1):=by
 unfold EF
 rw [decide_eq_false (show ¬ p < 0 by omega),decide_eq_false (show ¬ 84005 < p by omega),decide_eq_false (show ¬ p + 1 < 0 by omega),decide_eq_false (show ¬ 84005 < p + 1 by omega)]
theorem Vf {n:List UInt8} {ds:List Df} {p:Int} (b:0≤p) (a:p + 1≤84005) (hd:∀ e∈ds,e.frm≠p + 1):BK n ds p=BK n ds (p + 1):=by
 unfold BK
 rw [Ny b a,Kt hd]
theorem J7 {ds:List Df} {p:Int} (hd:∀ e∈ds,e.frm≠p + 1):∀ (es:List Nat) (a:Int) (b:List Nat) (c:List (Nat×List Nat)),Bj ds p es a b c=Bj ds (p + 1) es a b c
 | [],a,b,c=>by rw [Bj,Bj]
 | e :: es,a,b,c=>by
  have d:=fun a b c=>J7 hd es a b c
  rw [Bj,Bj,d,d,Kt hd]
theorem Rg {n:List UInt8} {ds:List Df} {p:Int} (b:0≤p) (a:p + 1≤84005) (hd:∀ e∈ds,e.frm≠p + 1):BT n ds p=BT n ds (p + 1):=by
 unfold BT
 rw [Ny b a,Kt hd,J7 hd]
theorem QM {n:List UInt8} {ds:List Df} {p:Int} (b:0≤p) (a:p + 1≤84005) (hd:∀ e∈ds,e.frm≠p + 1):Au n ds p=Au n ds (p + 1):=by
 unfold Au
 rw [Rg b a hd]
theorem I6 {n:List UInt8} {ds:List Df} {p:Int} (b:0≤p) (a:p + 1≤84005) (hd:∀ e∈ds,e.frm≠p + 1):AA n ds p=AA n ds (p + 1):=by
 unfold AA
 rw [Vf b a hd]
section
variable {n:List UInt8} {ds:List Df} {p:Int} (h0:0≤p) (h1:p + 1≤84005) (hd:∀ e∈ds,e.frm≠p + 1)
include h0 h1 hd
theorem Kc {m:List (List UInt8×Int)}:∀ (es:List Nat) (a:Int) (b:List DL),CK n ds p m es a b=CK n ds (p + 1) m es a b
 | [],a,b=>by rw [CK,CK,I6 h0 h1 hd]
 | e :: es,a,b=>by
  have c:=fun a b=>Kc (m:=m) es a b
  rw [CK,CK,c,c,I6 h0 h1 hd]
theorem Kd:∀ (es:List Nat) (k:Nat) (m:List (List UInt8×Int)),Cn n ds p es k m=Cn n ds (p + 1) es k m
 | [],k,m=>by rw [Cn,Cn,QM h0 h1 hd,Kc h0 h1 hd]
 | e :: es,k,m=>by rw [Cn,Cn,Kd es]
theorem Ud:CF n ds p=CF n ds (p + 1):=by
 unfold CF
 rw [QM h0 h1 hd,Kd h0 h1 hd,I6 h0 h1 hd,decide_eq_false (show ¬ p < 0 by omega),decide_eq_false (show ¬ 84005 < p by omega),decide_eq_false (show ¬ p + 1 < 0 by omega),decide_eq_false (show ¬ 84005 < p + 1 by omega)]
end
end Go.Proofs.YtmcpjkcggfmcmaaGreatDoor
namespace Go.Proofs.YtmcpjkcggfmcmaaGreatDoor
open Go.RowKit
set_option maxRecDepth 100000
set_option maxHeartbeats 1000000
def rowsSc (w:World) (A:Option Addr) (l:List (List (Int×Int×Int))):Prop:=∃ rs,Dm (fun e r=>∃ A c,r=[.slice A e.length c]∧DW w A e) l rs∧DI CY w 1 A rs
def J4 (w:World) (A:Option Addr) (l:List AK):Prop:=FB 6 Nt w A l
abbrev bO (e:DL) (A:Option Addr) (c:Nat):List Value:=[.string ⟨⟨e.1⟩⟩,.bool e.2.1,D e.2.2.1,D e.2.2.2.1,D e.2.2.2.2.1,.slice A e.2.2.2.2.2.length c]
def rowsRt (w:World) (A:Option Addr) (l:List DL):Prop:=∃ rs,Dm (fun e r=>∃ A c,r=bO e A c∧J4 w A e.2.2.2.2.2) l rs∧DI CY w 6 A rs
theorem Tw {α:Type} {a:α→List Value→Prop}:∀ {l:List α} {rs:List (List Value)} {i:Nat} {e:α},Dm a l rs→l[i]?=some e→∃ r,rs[i]?=some r∧a e r
 | [],_,_,_,_,h=>by simp at h
 | _ :: _,[],_,_,h,_=>h.elim
 | _ :: _,r :: _,0,_,h,hi=>⟨r,rfl,by simp at hi; exact hi ▸ h.1⟩
 | _ :: _,_ :: _,i + 1,_,h,hi=>by
  obtain ⟨r,b,h2⟩:=Tw (i:=i) h.2 (by simpa using hi)
  exact ⟨r,by simpa using b,h2⟩
theorem Md {α:Type} {b a:α→List Value→Prop}:∀ {l:List α} {rs:List (List Value)},(∀ e r,e∈l→b e r→a e r)→Dm b l rs→Dm a l rs
 | [],[],_,_=>trivial
 | [],_ :: _,_,h=>h.elim
 | _ :: _,[],_,h=>h.elim
 | _ :: _,_ :: _,hm,h=>⟨hm _ _ (by simp) h.1,Md (fun e r he=>hm e r (by simp [he])) h.2⟩
theorem Me {α β:Type} {f:α→β} {b:α→List Value→Prop} {a:β→List Value→Prop}:∀ {l:List α} {rs:List (List Value)},(∀ e r,e∈l→b e r→a (f e) r)→Dm b l rs→Dm a (l.map f) rs
 | [],[],_,_=>trivial
 | [],_ :: _,_,h=>h.elim
 | _ :: _,[],_,h=>h.elim
 | _ :: _,_ :: _,hm,h=>⟨hm _ _ (by simp) h.1,Me (fun e r he=>hm e r (by simp [he])) h.2⟩
theorem rowsSc.below {w w':World} {A:Option Addr} {l:List (List (Int×Int×Int))} (h:rowsSc w A l) (B:Below w.heap.size w w'):rowsSc w' A l:=by
 obtain ⟨rs,a,h2⟩:=h
 exact ⟨rs,Md (fun e r _ ⟨A,c,hr,he⟩=>⟨A,c,hr,he.below B⟩) a,DI.below h2 B⟩
theorem J4.below {w w':World} {A:Option Addr} {l:List AK} (h:J4 w A l) (B:Below w.heap.size w w'):J4 w' A l:=FB.below h B
theorem rowsRt.below {w w':World} {A:Option Addr} {l:List DL} (h:rowsRt w A l) (B:Below w.heap.size w w'):rowsRt w' A l:=by
 obtain ⟨rs,a,h2⟩:=h
 exact ⟨rs,Md (fun e r _ ⟨A,c,hr,he⟩=>⟨A,c,hr,he.below B⟩) a,DI.below h2 B⟩
theorem Qy {α:Type} {n:Nat} {a:α→List Value→Prop} {w:World} {A:Option Addr} {l:List α} {rs:List (List Value)} (c:Dm a l rs) (h2:DI CY w n A rs) (b:0 < l.length):∃ g off,A=some ⟨g,off,none⟩∧g < w.heap.size∧∀ (i:Nat) e,l[i]?=some e→∃ r,a e r∧w.rangeAt g (off + i * n) r:=by
 rcases h2 with h2 | ⟨g,off,rfl,_,hg,hc⟩
 ·rw [← I4 c,h2] at b
  exact absurd b (Nat.lt_irrefl _)
 ·refine ⟨g,off,rfl,hg,fun i e hi=>?_⟩
  obtain ⟨r,hr,d⟩:=Tw c hi
  exact ⟨r,d,fun j u hu=>hc i r hr j u hu⟩
theorem rowsSc.all {w:World} {A:Option Addr} {l:List (List (Int×Int×Int))} (h:rowsSc w A l) (b:0 < l.length):∃ g off,A=some ⟨g,off,none⟩∧g < w.heap.size∧∀ (i:Nat) e,l[i]?=some e→∃ a c,w.rangeAt g (off + i * 1) [.slice a e.length c]∧DW w a e:=by
 obtain ⟨rs,j,h2⟩:=h
 obtain ⟨g,off,f,hg,ha⟩:=Qy j h2 b
 refine ⟨g,off,f,hg,fun i e hi=>?_⟩
 obtain ⟨r,⟨a,c,rfl,hr⟩,d⟩:=ha i e hi
 exact ⟨a,c,d,hr⟩
theorem J4.all {w:World} {A:Option Addr} {l:List AK} (h:J4 w A l) (a:0 < l.length):∃ g off,A=some ⟨g,off,none⟩∧g < w.heap.size∧∀ (i:Nat) e,l[i]?=some e→w.rangeAt g (off + i * 6) (Nt e):=FB.all h a
theorem rowsRt.all {w:World} {A:Option Addr} {l:List DL} (h:rowsRt w A l) (b:0 < l.length):∃ g off,A=some ⟨g,off,none⟩∧g < w.heap.size∧∀ (i:Nat) e,l[i]?=some e→∃ a c,w.rangeAt g (off + i * 6) (bO e a c)∧J4 w a e.2.2.2.2.2:=by
 obtain ⟨rs,j,h2⟩:=h
 obtain ⟨g,off,f,hg,ha⟩:=Qy j h2 b
 refine ⟨g,off,f,hg,fun i e hi=>?_⟩
 obtain ⟨r,⟨a,c,rfl,hr⟩,d⟩:=ha i e hi
 exact ⟨a,c,d,hr⟩
theorem Vl {α:Type} {T:TypeId} {n:Nat} {f:α→List Value} {A:Option Addr} {c:Nat} {l:List α} {w:World} (hn:∀ e,(f e).length=n) (h:(Th.row T n (fun e r=>r=f e) A c l).P w):FB n f w A l:=by
 obtain ⟨rs,hr,ho⟩:=h
 have:=Mh (I4 hr) (KU (fun e r hr=>hr ▸ hn e) hr) ho
 rw [Lg hr] at this
 exact this
theorem AU.rowsSc {b:Nat} {w:World} {L:List Th} {A:Option Addr} {c:Nat} {xs:List RQ} (h:AU b w L) (i j:Nat) (hi:L[i]?=some (EZ A c xs)) (a:L[j]?=some (DY xs)):rowsSc w A (xs.map Prod.fst):=by
 obtain ⟨rs,d,h2⟩:=h.rows (fun e r hr=>hr ▸ rfl) i hi
 have hf:(DY xs).P w:=h.all j _ a
 exact ⟨rs,Me (fun e r he hr=>⟨e.2.1,e.2.2,hr,Vl (T:=97) (c:=e.2.2) (fun _=>rfl) (hf (Ng e) (List.mem_map_of_mem he))⟩) d,h2⟩
theorem AU.rowsRt {b:Nat} {w:World} {L:List Th} {A:Option Addr} {c:Nat} {xs:List RR} (h:AU b w L) (i j:Nat) (hi:L[i]?=some (Hw A c xs)) (a:L[j]?=some (F0 xs)):rowsRt w A (xs.map lm):=by
 obtain ⟨rs,d,h2⟩:=h.rows (fun e r hr=>hr ▸ rfl) i hi
 have hf:(F0 xs).P w:=h.all j _ a
 exact ⟨rs,Me (fun e r he hr=>⟨e.2.2.2.2.2.2.1,e.2.2.2.2.2.2.2,hr,Vl (T:=53) (c:=e.2.2.2.2.2.2.2) (fun _=>rfl) (hf (MZ e) (List.mem_map_of_mem he))⟩) d,h2⟩
theorem PK (w:World) (a b c f e d:Int):(binOp .neq 97 (.agg #[D a,D b,D c]) (.agg #[D f,D e,D d])).run Tryz.prog w=.ok (.bool (!(a == f && (b == e && c == d)))) w:=by
 simp [go_sem]
 repeat' split
 all_goals simp_all
theorem PJ (w:World) (a b c d e f k j i h e' g:Int):(binOp .neq 53 (.agg #[D a,D b,D c,D d,D e,D f]) (.agg #[D k,D j,D i,D h,D e',D g])).run Tryz.prog w=.ok (.bool (!(a == k && (b == j && (c == i && (d == h && (e == e' && f == g))))))) w:=by
 simp [go_sem]
 repeat' split
 all_goals simp_all
end Go.Proofs.YtmcpjkcggfmcmaaGreatDoor
namespace Go.Proofs.YtmcpjkcggfmcmaaGreatDoor
section
variable {P:Program} {ops:Array Oper} {Q:Exit→Act→World→Prop} {md:Region.Mode} {W:Wr} {listed0:Array Bool} {a0:Act} {J:Array Bool→(Nat→Value)→World→Prop} {Ext:World→World→Prop} {L:List Ci} {w0:World}
def Ci.obJ (P:Program) (ops:Array Oper) (a0:Act) (W:Wr) (J:Array Bool→(Nat→Value)→World→Prop) (Ext:World→World→Prop) (L:List Ci) (l:Ci):Prop:=
 ∀ (listed:Array Bool) (vals:Nat→Value) (w:World),listed.getD l.idx true=false→J listed vals w→(∀ m∈L,m.idx∈l.before→listed.getD m.idx false=true∧m.holds vals w)→∀ o,ops[l.idx]?=some o→
  if Region.wanted o (J1 ops a0 W vals) then AH P o (CM a0 W vals) w (fun v w'=>J (listed.setIfInBounds l.idx true) (FR vals l.idx v) w'∧Ext w w'∧l.holds (FR vals l.idx v) w')
  else J (listed.setIfInBounds l.idx true) (FR vals l.idx undef) w∧l.holds (FR vals l.idx undef) w
theorem ZW {n:Nat} (h:EY md ops W listed0 n L=true) {l:Ci} (hl:l∈L) {j:Nat} (a:j∈l.before):(∃ m∈L,m.idx=j)∧True:=by
 have F:=JI h
 obtain ⟨o,ho⟩:=F.op l hl
 obtain ⟨b,_⟩:=F.bef l hl o ho j a
 obtain ⟨m,hm,he⟩:=List.mem_map.1 b
 exact ⟨⟨m,hm,he⟩,trivial⟩
theorem WD (hok:EY md ops W listed0 a0.tmps.size L=true) (hC:J listed0 (fun _=>undef) w0) (k0:∀ w:World,Ext w w) (e0:∀ a b c:World,Ext a b→Ext b c→Ext a c)
  (f0:∀ l∈L,∀ vs w w',Ext w w'→l.says vs w→l.says vs w') (a1:∀ l∈L,l.obJ P ops a0 W J Ext L) {fuel:Nat}
  (H:∀ p w,J ((L.map (·.idx)).foldl (fun b i=>b.setIfInBounds i true) listed0) p w→Ext w0 w→(∀ l∈L,l.holds p w)→wpAny P md ops Q fuel ((L.map (·.idx)).foldl (fun b i=>b.setIfInBounds i true) listed0) (Ey ops p (L.map (·.idx)) a0) w) :
  wpAny P md ops Q (L.length + fuel) listed0 a0 w0:=by
 have F:=JI hok
 have key:∀ (m:Nat) (d:Array Bool) (p:Nat→Value) (a:Act) (w:World),Hc md ops W listed0 a0 (fun _=>True) Ext L w0 d p a w→Fz d L=m→J d p w→wpAny P md ops Q (m + fuel) d a w:=by
  intro m
  induction m with
  | zero=>
   intro d p a w I hu q0
   have d0:=fun l (hl:l∈L)=>Nc hu hl
   have h:=fun hj=>H p w hj I.ext (fun l hl=>I.says l hl (d0 l hl))
   have e1:d=(L.map (·.idx)).foldl (fun b i=>b.setIfInBounds i true) listed0:=by
    refine Array.ext_getElem? fun j=>?_
    rw [Km]
    by_cases hj:j∈L.map (·.idx)
    ·obtain ⟨l,hl,rfl⟩:=List.mem_map.1 hj
     have b0:l.idx < listed0.size:=GQ (F.fresh l hl)
     rw [if_pos ⟨hj,b0⟩,Nv (by rw [I.size,← F.size]; exact b0) false,d0 l hl]
    ·rw [if_neg (fun h=>hj h.1)]; exact I.keep j hj
   have e2:a=Ey ops p (L.map (·.idx)) a0:=by
    have hs:=HM ops p (L.map (·.idx)) a0
    have ht:a.tmps=(Ey ops p (L.map (·.idx)) a0).tmps:=by
     refine Array.ext_getElem? fun t=>?_
     cases hw:W.of t with
     | none=>
      rw [I.other t hw,LM]
      intro i hi hd
      obtain ⟨l,hl,rfl⟩:=List.mem_map.1 hi
      obtain ⟨o,ho⟩:=F.op l hl
      have p0:o.dst=some t:=by unfold D9 at hd; rw [ho] at hd; exact hd
      have:=(F.dst l hl o ho t p0).2
      rw [hw] at this; cases this
     | some j=>
      obtain ⟨v0,i0⟩:=F.wr t j hw
      obtain ⟨l,hl,rfl⟩:=List.mem_map.1 v0
      obtain ⟨o,ho⟩:=F.op l hl
      have p0:o.dst=some t:=by unfold D9 at i0; rw [ho] at i0; exact i0
      rw [I.done t _ hw (d0 l hl),Pp ops p t l.idx _ _ _ v0 i0 (F.dst l hl o ho t p0).1]
      intro i hi hd
      obtain ⟨l',t0,rfl⟩:=List.mem_map.1 hi
      obtain ⟨o',r0⟩:=F.op l' t0
      have x0:o'.dst=some t:=by unfold D9 at hd; rw [r0] at hd; exact hd
      have:=(F.dst l' t0 o' r0 t x0).2
      rw [hw] at this; exact (Option.some.inj this).symm
    cases a; cases hf:Ey ops p (L.map (·.idx)) a0
    rw [hf] at hs ht
    simp only at hs ht
    have hd:=I.defers
    simp only at hd
    subst ht
    rw [hs.2,hd]
   have h:=h (by rw [← e1]; exact q0)
   rw [Nat.zero_add,e1,e2]; exact h
  | succ m ih=>
   intro d p a w I hu q0
   rw [Nat.succ_add]
   have some:∃ l∈L,d.getD l.idx true=false:=by
    rcases hx:L.filter (fun l=>!d.getD l.idx false) with _ | ⟨l,r⟩
    ·unfold Fz at hu; rw [hx] at hu; simp at hu
    ·have:l∈L.filter (fun l=>!d.getD l.idx false):=by rw [hx]; simp
     rw [List.mem_filter] at this
     refine ⟨l,this.1,?_⟩
     have b0:l.idx < d.size:=by rw [I.size,← F.size]; exact GQ (F.fresh l this.1)
     have h2:=this.2
     simp [b0] at h2 ⊢; exact h2
   refine ⟨fun hr=>?_,fun i hi=>?_⟩
   ·exfalso
    have:∀ (k:Nat) (l:Ci),l∈L→l.idx=k→d.getD l.idx true=true:=by
     intro k
     induction k using Nat.strongRecOn with
     | _ k ihk=>
      intro l hl hk
      cases hu:d.getD l.idx true with
      | true=>rfl
      | false=>
       exfalso
       obtain ⟨o,ho⟩:=F.op l hl
       have hm:l.idx∈Region.ready md ops d:=by
        rw [mem_ready]
        refine ⟨hu,o,ho,fun e he hb=>?_⟩
        rcases F.edge l hl o ho e he hb with ⟨h1,h2⟩ | ⟨h1,h2⟩
        ·have:=I.keep _ h2
         rw [Array.getD_eq_getD_getElem?,this,← Array.getD_eq_getD_getElem?]; exact h1
        ·obtain ⟨m',z,c0⟩:=List.mem_map.1 h2
         have g:=ihk m'.idx (by omega) m' z rfl
         rw [c0] at g
         have b0:e.on < d.size:=by rw [I.size,← F.size,← c0]; exact GQ (F.fresh m' z)
         simp [b0] at g ⊢; exact g
       rw [hr] at hm; cases hm
    obtain ⟨l,hl,hf⟩:=some
    rw [this _ l hl rfl] at hf; cases hf
   ·have f1:=hi
    rw [mem_ready] at hi
    obtain ⟨y,o,ho,u⟩:=hi
    have hA:i∈L.map (·.idx):=by
     by_cases hA:i∈L.map (·.idx)
     ·exact hA
     ·exfalso
      have hk:=I.keep i hA
      have z0:listed0.getD i true=false:=by rw [Array.getD_eq_getD_getElem?,← hk,← Array.getD_eq_getD_getElem?]; exact y
      rcases F.tail i o ho z0 hA with ⟨e,he,hb,b1,hx⟩ | hx
      ·have hd:=u e he hb
       have:=I.keep _ hx
       rw [Array.getD_eq_getD_getElem?,this,← Array.getD_eq_getD_getElem?,b1] at hd; cases hd
      ·obtain ⟨l,hl,hf⟩:=some
       have h0:=Dv hf
       obtain ⟨e,he,hb,hy⟩:=hx l.idx (List.mem_map.2 ⟨l,hl,rfl⟩)
       have hd:=u e he hb
       rcases hy with h | ⟨m',z,c0,h⟩
       ·rw [← h,hd] at h0; cases h0
       ·have:=I.shut m' z (by rw [c0]; exact hd) _ h
        rw [this] at h0; cases h0
    obtain ⟨l,hl,rfl⟩:=List.mem_map.1 hA
    have hb:∀ j∈l.before,d.getD j false=true:=by
     intro j hj
     obtain ⟨_,_,e,he,c1,hx⟩:=F.bef l hl o ho j hj
     have hd:=u e he c1
     rcases hx with rfl | ⟨m',z,c0,hx⟩
     ·exact hd
     ·exact I.shut m' z (by rw [c0]; exact hd) j hx
    have b0:=GQ y
    have s:Fz (d.setIfInBounds l.idx true) L=m:=by
     have:=LY b0 (Dv y) F.nodup hA
     omega
    have q:=a1 l hl d p w y q0 (fun m' z y0=>⟨hb _ y0,I.says m' z (hb _ y0)⟩) o ho
    unfold wpOp
    simp only [ho]
    rw [I.wanted F hl ho hb]
    split
    ·rename_i hw
     rw [if_pos hw] at q
     refine .inl ?_
     unfold Oper.wp
     rw [I.exec F hl ho hb]
     unfold AH at q
     cases hr:(execOp (CM a0 W p) o).run P w with
     | halt x w'=>rw [hr] at q; exact q.elim
     | ok n w'=>
      rw [hr] at q
      cases n <;> simp only at q <;> simp only [Oper.upon]
      case value v=>exact ih _ _ _ _ (I.step F (fun l hl vs w w' _ he h=>f0 l hl vs w w' he h) e0 hl ho hb y trivial q.2.1 q.2.2) s q.1
      case skip=>exact ih _ _ _ _ (I.step F (fun l hl vs w w' _ he h=>f0 l hl vs w w' he h) e0 hl ho hb y trivial q.2.1 q.2.2) s q.1
      case enter f args=>
       refine q.mono fun e d1 he=>?_
       obtain ⟨v,rfl,h1,h2,h3⟩:=he
       exact ih _ _ _ _ (I.step F (fun l hl vs w w' _ he h=>f0 l hl vs w w' he h) e0 hl ho hb y trivial h2 h3) s h1
    ·rename_i hw
     rw [if_neg hw] at q
     exact ih _ _ _ _ (I.step F (fun l hl vs w w' _ he h=>f0 l hl vs w w' he h) e0 hl ho hb y trivial (k0 w) q.2) s q.1
 refine key L.length listed0 (fun _=>undef) a0 w0 ⟨F.size,fun _ _=>rfl,?_,rfl,rfl,?_,fun _ _ _ _=>rfl,fun _ _=>rfl,trivial,k0 _,?_⟩ ?_ hC
 ·intro l hl hd; rw [Dv (F.fresh l hl)] at hd; cases hd
 ·intro t j hw hd
  obtain ⟨l,hl,rfl⟩:=List.mem_map.1 (F.wr t j hw).1
  rw [Dv (F.fresh l hl)] at hd; cases hd
 ·intro l hl hd; rw [Dv (F.fresh l hl)] at hd; cases hd
 ·unfold Fz
  rw [List.filter_eq_self.2]
  intro l hl; rw [Dv (F.fresh l hl)]; rfl
end
section
variable {P:Program} {ops:Array Oper} {Q:Exit→Act→World→Prop} {md:Region.Mode} {W:Wr} {listed0:Array Bool} {n:Nat} {E:Nat→Value} {J:Array Bool→(Nat→Value)→World→Prop} {Ext:World→World→Prop} {L:List Ci} {w0:World}
def l6 (P:Program) (ops:Array Oper) (n:Nat) (E:Nat→Value) (W:Wr) (J:Array Bool→(Nat→Value)→World→Prop) (Ext:World→World→Prop) (L:List Ci) (l:Ci):Prop:=
 (∀ vs w w',Ext w w'→l.says vs w→l.says vs w')∧
  ∀ (listed:Array Bool) (vals:Nat→Value) (w:World),listed.getD l.idx true=false→(∀ j∈l.before,listed.getD j false=true)→J listed vals w→HL l.before vals w L→AH P (ops.getD l.idx default) (C0 n E W vals) w (fun v w'=>J (listed.setIfInBounds l.idx true) (FR vals l.idx v) w'∧Ext w w'∧l.says (l.deps.map (FR vals l.idx v)) w')
def M7 (P:Program) (ops:Array Oper) (n:Nat) (E:Nat→Value) (W:Wr) (J:Array Bool→(Nat→Value)→World→Prop) (Ext:World→World→Prop) (L:List Ci):List Ci→Prop
 | []=>True
 | l :: r=>l6 P ops n E W J Ext L l∧M7 P ops n E W J Ext L r
theorem M7.all:∀ {r:List Ci},M7 P ops n E W J Ext L r→∀ l∈r,l6 P ops n E W J Ext L l
 | [],_,l,hl=>by cases hl
 | m :: r,h,l,hl=>by
  rcases List.mem_cons.1 hl with rfl | a
  ·exact h.1
  ·exact M7.all h.2 l a
theorem ZZ (hok:(EY md ops W listed0 n L && bare ops L)=true) (hC:J listed0 (fun _=>undef) w0) (h:∀ w:World,Ext w w) (g:∀ a b c:World,Ext a b→Ext b c→Ext a c)
  (v:M7 P ops n E W J Ext L L) {fuel k:Nat} (hk:k=L.length + fuel)
  (H:∀ d w,J ((L.map (·.idx)).foldl (fun b i=>b.setIfInBounds i true) listed0) d w→Ext w0 w→I7 d w L→wpAny P md ops Q fuel ((L.map (·.idx)).foldl (fun b i=>b.setIfInBounds i true) listed0) (Fr n (Eu ops d (L.map (·.idx)) E)) w) :
  wpAny P md ops Q k listed0 (Fr n E) w0:=by
 subst hk
 rw [Bool.and_eq_true] at hok
 refine WD (a0:=Fr n E) (by rw [Qr]; exact hok.1) hC h g (fun l hl=>(v.all l hl).1) (fun l hl=>?_) (fun d w h1 h2 h3=>by rw [UV]; exact H d w h1 h2 (Lx h3))
 intro e d w r t hm o ho
 have hb:=hok.2
 unfold bare at hb
 rw [List.all_eq_true] at hb
 have hg:=hb l hl
 have u:=(v.all l hl).2 e d w r (fun j y=>by
  obtain ⟨⟨m,f,q⟩,_⟩:=ZW hok.1 hl y
  obtain rfl:=q
  exact (hm m f y).1) t (Mu fun m f s=>(hm m f s).2)
 have p:ops.getD l.idx default=o:=by rw [Array.getD_eq_getD_getElem?,ho]; rfl
 rw [p] at hg u
 have z:Region.wanted o (J1 ops (Fr n E) W d)=true:=by
  unfold Region.wanted
  cases hgg:o.guard with
  | none=>rfl
  | some x=>rw [hgg] at hg; cases hg
 rw [if_pos z,UZ]
 exact u
end
end Go.Proofs.YtmcpjkcggfmcmaaGreatDoor
namespace Go.Proofs.YtmcpjkcggfmcmaaGreatDoor
open Go.RowKit
set_option maxRecDepth 100000
structure Gu (w0:World) (T1 T2:TypeId) (Z1 S1 Z2:List Value) (a b c:Nat) (listed:Array Bool) (vals:Nat→Value) (w:World):Prop where
 below:Below w0.heap.size w0 w
 ca:listed.getD c false=true→listed.getD a false=true
 own:∃ g h,AU w0.heap.size w ((cond (listed.getD a false) [Th.ent ⟨g,0,cond (listed.getD c false) S1 Z1,T1,true⟩] [])++(cond (listed.getD b false) [Th.ent ⟨h,0,Z2,T2,true⟩] []))∧
  (listed.getD a false=true→vals a=.pointer (some ⟨g,0,none⟩))∧(listed.getD b false=true→vals b=.pointer (some ⟨h,0,none⟩))
section
variable {w0:World} {T1 T2:TypeId} {Z1 S1 Z2:List Value} {a b c i:Nat} {listed:Array Bool} {vals:Nat→Value} {w w':World} {v:Value}
theorem Gu.start (h:(listed.getD a false,listed.getD b false,listed.getD c false)=(false,false,false)):Gu w0 T1 T2 Z1 S1 Z2 a b c listed vals w0.drew:=by
 simp only [Prod.mk.injEq] at h
 refine ⟨(Below.refl _ _).drew,fun hc=>(by rw [h.2.2] at hc; cases hc),0,0,?_,fun ha=>(by rw [h.1] at ha; cases ha),fun hb=>(by rw [h.2.1] at hb; cases hb)⟩
 rw [h.1,h.2.1]
 exact AU.nil (Nat.le_refl _)
theorem Kw {a:Nat→Value} {i j:Nat} {v:Value} (h:j≠i):FR a i v j=a j:=by unfold FR; rw [if_neg h]
theorem SP {a:Nat→Value} {i:Nat} {v:Value}:FR a i v i=v:=by unfold FR; rw [if_pos rfl]
theorem Gu.pure (h:Gu w0 T1 T2 Z1 S1 Z2 a b c listed vals w) (hi:listed.getD i true=false) (ha:a≠i) (hb:b≠i) (hc:c≠i):Gu w0 T1 T2 Z1 S1 Z2 a b c (listed.setIfInBounds i true) (FR vals i v) w:=by
 obtain ⟨j,h2,g,k,f,e,d⟩:=h
 refine ⟨j,?_,g,k,?_,?_,?_⟩
 ·rw [getD_set_ne false (Ne.symm hc),getD_set_ne false (Ne.symm ha)]; exact h2
 ·rw [getD_set_ne false (Ne.symm hc),getD_set_ne false (Ne.symm ha),getD_set_ne false (Ne.symm hb)]; exact f
 ·rw [getD_set_ne false (Ne.symm ha),Kw ha]; exact e
 ·rw [getD_set_ne false (Ne.symm hb),Kw hb]; exact d
theorem Lz {a:Array Bool} {i:Nat} (hi:a.getD i true=false):(a.setIfInBounds i true).getD i false=true:=by
 have:=GQ hi
 simp [this]
theorem Gu.allocA (h:Gu w0 T1 T2 Z1 S1 Z2 a b c listed vals w) (hi:listed.getD a true=false) (hb:b≠a) (hc:c≠a) (m:DH [] w.heap.size w' ⟨w.heap.size + 1,[⟨w.heap.size,0,Z1,T1,true⟩],(0,0),[]⟩) (f:EC [] w.heap.size w w'):Gu w0 T1 T2 Z1 S1 Z2 a b c (listed.setIfInBounds a true) (FR vals a (.pointer (some ⟨w.heap.size,0,none⟩))) w':=by
 obtain ⟨j,h2,g,o,i,p,n⟩:=h
 have e:Below w.heap.size w w':=f.below (Nat.le_refl _) (fun k l=>by cases l)
 have d:listed.getD c false=false:=by
  cases hx:listed.getD c false with
  | false=>rfl
  | true=>have:=h2 hx; rw [Dv hi] at this; cases this
 rw [Dv hi] at i
 refine ⟨j.trans (e.mono j.size),fun _=>Lz hi,w.heap.size,o,?_,fun _=>SP,?_⟩
 ·rw [Lz hi,getD_set_ne false (Ne.symm hc),getD_set_ne false (Ne.symm hb),d]
  exact AU.run (M:=[]) (M':=[⟨w.heap.size,0,Z1,T1,true⟩]) i m f rfl
 ·rw [getD_set_ne false (Ne.symm hb),Kw hb]; exact n
theorem iH {b:Nat} {w:World} {s:List Th} {t:Th} (h:AU b w ([t]++s)) (hs:s.length≤1):AU b w (s++[t]):=by
 match s,hs with
 | [],_=>exact h
 | [u],_=>exact h.pick [1,0] rfl (by decide)
theorem Gu.allocB (h:Gu w0 T1 T2 Z1 S1 Z2 a b c listed vals w) (hi:listed.getD b true=false) (ha:a≠b) (hc:c≠b) (l:DH [] w.heap.size w' ⟨w.heap.size + 1,[⟨w.heap.size,0,Z2,T2,true⟩],(0,0),[]⟩) (e:EC [] w.heap.size w w'):Gu w0 T1 T2 Z1 S1 Z2 a b c (listed.setIfInBounds b true) (FR vals b (.pointer (some ⟨w.heap.size,0,none⟩))) w':=by
 obtain ⟨i,h2,g,o,f,m,n⟩:=h
 have d:Below w.heap.size w w':=e.below (Nat.le_refl _) (fun k j=>by cases j)
 rw [Dv hi,cond_false,List.append_nil] at f
 refine ⟨i.trans (d.mono i.size),?_,g,w.heap.size,?_,?_,fun _=>SP⟩
 ·rw [getD_set_ne false (Ne.symm hc),getD_set_ne false (Ne.symm ha)]; exact h2
 ·rw [Lz hi,getD_set_ne false (Ne.symm hc),getD_set_ne false (Ne.symm ha)]
  have:=AU.run (M:=[]) (M':=[⟨w.heap.size,0,Z2,T2,true⟩]) f l e rfl
  exact iH this (by cases listed.getD a false <;> simp)
 ·rw [getD_set_ne false (Ne.symm ha),Kw ha]; exact m
theorem Gu.box (h:Gu w0 T1 T2 Z1 S1 Z2 a b c listed vals w) (d:listed.getD a false=true) (hi:listed.getD c true=false) (ha:a≠c) (hb:b≠c):∃ g,vals a=.pointer (some ⟨g,0,none⟩)∧BI.good w ⟨g,0,Z1,T1,true⟩∧
  ∀ w' v,BI.good w' ⟨g,0,S1,T1,true⟩→Ae g w w'→Gu w0 T1 T2 Z1 S1 Z2 a b c (listed.setIfInBounds c true) (FR vals c v) w':=by
 obtain ⟨o,h2,g,p,f,m,n⟩:=h
 rw [d,Dv hi] at f
 refine ⟨g,m d,f.all 0 _ rfl,fun w' v hg l=>?_⟩
 have e:=(f.lo 0 _ rfl g rfl).1
 refine ⟨o.trans (l.below e (Nat.le_of_lt (Nat.lt_of_le_of_lt e (f.lo 0 _ rfl g rfl).2))),fun _=>(by rw [getD_set_ne false (Ne.symm ha)]; exact d),g,p,?_,?_,?_⟩
 ·rw [Lz hi,getD_set_ne false (Ne.symm ha),getD_set_ne false (Ne.symm hb),d]
  exact f.set 0 rfl l.size (t:=Th.ent ⟨g,0,S1,T1,true⟩) hg (fun k i=>⟨by rw [show k=g from i]; exact hg.1,.inl i⟩) (fun k i j=>l.block k i j)
 ·rw [getD_set_ne false (Ne.symm ha),Kw ha]; exact m
 ·rw [getD_set_ne false (Ne.symm hb),Kw hb]; exact n
theorem Gu.done (h:Gu w0 T1 T2 Z1 S1 Z2 a b c listed vals w) (hl:(listed.getD a false,listed.getD b false,listed.getD c false)=(true,true,true)):∃ g d,vals a=.pointer (some ⟨g,0,none⟩)∧vals b=.pointer (some ⟨d,0,none⟩)∧AU w0.heap.size w [Th.ent ⟨g,0,S1,T1,true⟩,Th.ent ⟨d,0,Z2,T2,true⟩]:=by
 simp only [Prod.mk.injEq] at hl
 obtain ⟨j,h2,g,d,e,i,f⟩:=h
 rw [hl.1,hl.2.1,hl.2.2] at e
 exact ⟨g,d,i hl.1,f hl.2.1,e⟩
end
end Go.Proofs.YtmcpjkcggfmcmaaGreatDoor

/-
  Part 37 of a proof: contracts of functions.
-/
import Derived.Test.YtkjbdagicjbjjaaGreatTf36
set_option linter.all false
namespace Go.Proofs.YtkjbdagicjbjjaaGreat
open Go.RowKit
set_option maxRecDepth 100000
theorem Es {α:Type} (l:List α):l <+: l:=⟨[],by simp⟩
theorem KT (F:BD→Int×Int×Int) (p:BD) (s:CT):s.2 <+: (Cj F p s).2.2:=by
 unfold Cj
 split
 ·exact Es _
 ·cases !((F p).2.2 == 0)
  ·exact ⟨[(p,(F p).1,(F p).2.1)],rfl⟩
  ·exact Es _
theorem KU (f:Ex→CT→Cc):∀ (ks:List Ex) (_:∀ k∈ks,∀ s,s.2 <+: (f k s).2.2) (i:Nat) (a b:Int×Int) (s:CT),s.2 <+: (CZ f ks i a b s).2.2.2.2
 | [],_,_,_,_,s=>Es _
 | k :: r,hf,i,a,b,s=>by
  have d:=hf k (by simp) s
  unfold CZ
  cases !((f k s).1.2.2 == 0)
  ·exact d.trans (KU f r (fun e c=>hf e (by simp [c])) _ _ _ _)
  ·exact d
theorem XC (f:Ex→CT→Cc) (x:Ex) (hf:∀ k∈x.ks,∀ s,s.2 <+: (f k s).2.2) (s:CT):s.2 <+: (Bt f x s).2.2:=by
 unfold Bt
 split
 ·rename_i k0 k1 r hk
  rw [hk] at hf
  have a:=hf k0 (by simp) s
  have b:=hf k1 (by simp) (f k0 s).2
  cases !((f k0 s).1.2.2 == 0)
  ·show s.2 <+: (cond _ _ _:Cc).2.2
   cases (x.op == 12 && ((f k0 s).1.1 == 0))
   ·show s.2 <+: (cond _ _ _:Cc).2.2
    cases (x.op == 13 && !((f k0 s).1.1 == 0))
    ·show s.2 <+: (cond _ _ _:Cc).2.2
     cases (x.op == 18 && ((f k0 s).1.1 == 0))
     ·exact a.trans b
     ·cases r with
      | nil=>exact Es _
      | cons k2 r=>exact a.trans (hf k2 (by simp) (f k0 s).2)
    ·exact a
   ·exact a
  ·exact a
 ·exact Es _
theorem H0 (F:BD→Int×Int×Int):∀ (h:Nat) (x:Ex) (s:CT),s.2 <+: (As F h x s).2.2
 | 0,_,_=>Es _
 | h + 1,x,s=>by
  unfold As
  cases (x.op == 1)
  ·show s.2 <+: (cond _ _ _:Cc).2.2
   cases (x.op == 2)
   ·show s.2 <+: (cond _ _ _:Cc).2.2
    cases (x.op == 3 || (x.op == 20 || x.op == 21))
    ·show s.2 <+: (cond _ _ _:Cc).2.2
     cases (x.op == 18 || (x.op == 12 || x.op == 13))
     ·have c:=KU (As F h) x.ks (fun k _ s=>H0 F h k s) 0 (0,0) (0,0) s
      show s.2 <+: (match CZ (As F h) x.ks 0 (0,0) (0,0) s with
       | (e,a,b,s')=>cond (!(e == 0)) ((0,0,e),s') (cond (x.op == 4) (Cj F (x.op,x.nm,0,a.1,a.2) s') (CR x a.1 a.2 b.1 b.2,s'))).2.2
      generalize CZ (As F h) x.ks 0 (0,0) (0,0) s=q at c ⊢
      obtain ⟨e,a,b,s'⟩:=q
      show s.2 <+: (cond _ _ _:Cc).2.2
      cases !(e == 0)
      ·show s.2 <+: (cond _ _ _:Cc).2.2
       cases (x.op == 4)
       ·exact c
       ·exact c.trans (KT F _ s')
      ·exact c
     ·exact XC (As F h) x (fun k _ s=>H0 F h k s) s
    ·exact KT F _ s
   ·exact Es _
  ·exact Es _
def Gd (U:List DP) (q q':Cc):Prop:=q.1.2.2=0→q'.1.2.2=0→q.2.2 <+: U→q'.2.2 <+: U→q=q'
theorem bz {x:Int} (h:(!(x == 0))=false):x=0:=by simpa using h
theorem bn {x:Int} (h:(!(x == 0))=true):x≠0:=by simpa using h
def zB (f g:CT→Cc):Prop:=∀ s U,(f s).1.2.2=0→(g s).1.2.2=0→(f s).2.2 <+: U→(g s).2.2 <+: U→f s=g s
theorem m5 {α:Type} {l U:List α} {a b:α} (c:l++[a] <+: U) (h2:l++[b] <+: U):a=b:=by
 obtain ⟨e,rfl⟩:=c
 obtain ⟨d,h⟩:=h2
 rw [List.append_assoc,List.append_assoc] at h
 have:=List.append_cancel_left h
 exact (List.cons.inj this).1.symm
theorem RZ (F G:BD→Int×Int×Int) (p:BD):zB (Cj F p) (Cj G p):=by
 intro s U a h2 c b
 unfold Cj at a h2 c b ⊢
 cases hl:AO s.1 p with
 | some v=>rfl
 | none=>
  rw [hl] at a h2 c b
  simp only at a h2 c b ⊢
  cases hf:!((F p).2.2 == 0)
  ·cases hg:!((G p).2.2 == 0)
   ·rw [hf] at c
    rw [hg] at b
    have:=m5 c b
    simp only [Prod.mk.injEq,true_and] at this
    rw [this.1,this.2]
    rfl
   ·rw [hg] at h2
    have h2:(G p).2.2=0:=h2
    rw [h2] at hg
    cases hg
  ·rw [hf] at a
   have a:(F p).2.2=0:=a
   rw [a] at hf
   cases hf
theorem Rb (f g:Ex→CT→Cc):∀ (ks:List Ex) (_:∀ k∈ks,zB (f k) (g k)) (_:∀ k∈ks,∀ s,s.2 <+: (f k s).2.2) (_:∀ k∈ks,∀ s,s.2 <+: (g k s).2.2) (i:Nat) (a b:Int×Int) (s:CT) (U:List DP),(CZ f ks i a b s).1=0→(CZ g ks i a b s).1=0→(CZ f ks i a b s).2.2.2.2 <+: U→(CZ g ks i a b s).2.2.2.2 <+: U→CZ f ks i a b s=CZ g ks i a b s
 | [],_,_,_,_,_,_,_,_,_,_,_,_=>rfl
 | k :: r,hd,pf,pg,i,a,b,s,U,e,h2,h3,h4=>by
  unfold CZ at e h2 h3 h4 ⊢
  cases hf:!((f k s).1.2.2 == 0)
  ·cases hg:!((g k s).1.2.2 == 0)
   ·rw [hf] at e h3
    rw [hg] at h2 h4
    simp only [cond_false] at e h2 h3 h4 ⊢
    have m:(f k s).1.2.2=0:=by simpa using hf
    have l:(g k s).1.2.2=0:=by simpa using hg
    have j:=(KU f r (fun d c=>pf d (by simp [c])) (i + 1) (cond (i == 0) ((f k s).1.1,(f k s).1.2.1) a) (cond (i == 1) ((f k s).1.1,(f k s).1.2.1) b) (f k s).2).trans h3
    have h:=(KU g r (fun d c=>pg d (by simp [c])) (i + 1) (cond (i == 0) ((g k s).1.1,(g k s).1.2.1) a) (cond (i == 1) ((g k s).1.1,(g k s).1.2.1) b) (g k s).2).trans h4
    have he:=hd k (by simp) s U m l j h
    rw [← he] at h2 h4 ⊢
    exact Rb f g r (fun d c=>hd d (by simp [c])) (fun d c=>pf d (by simp [c])) (fun d c=>pg d (by simp [c])) _ _ _ _ U e h2 h3 h4
   ·rw [hg] at h2
    have h2:(g k s).1.2.2=0:=h2
    rw [h2] at hg
    cases hg
  ·rw [hf] at e
   have e:(f k s).1.2.2=0:=e
   rw [e] at hf
   cases hf
def LE (φ:Ex→CT→Cc) (r:List Ex) (s0 s:CT):Cc:=match r with
 | k2 :: _=>φ k2 s0
 | []=>((0,0,1),s)
theorem XD (f g:Ex→CT→Cc) (x:Ex) (hd:∀ k∈x.ks,zB (f k) (g k)) (c:∀ k∈x.ks,∀ s,s.2 <+: (f k s).2.2) (b:∀ k∈x.ks,∀ s,s.2 <+: (g k s).2.2) (s:CT) (U:List DP):Gd U (Bt f x s) (Bt g x s):=by
 unfold Bt
 cases hx:x.ks with
 | nil=>exact fun a=>by cases a
 | cons k0 r0=>
  cases r0 with
  | nil=>exact fun a=>by cases a
  | cons k1 r=>
   rw [hx] at hd c b
   show Gd U (cond (!((f k0 s).1.2.2 == 0)) ((0,0,(f k0 s).1.2.2),(f k0 s).2) (cond (x.op == 12 && (f k0 s).1.1 == 0) ((0,1,0),(f k0 s).2) (cond (x.op == 13 && !((f k0 s).1.1 == 0)) ((1,1,0),(f k0 s).2) (cond (x.op == 18 && (f k0 s).1.1 == 0) (LE f r (f k0 s).2 s) (f k1 (f k0 s).2))):Cc)) (cond (!((g k0 s).1.2.2 == 0)) ((0,0,(g k0 s).1.2.2),(g k0 s).2) (cond (x.op == 12 && (g k0 s).1.1 == 0) ((0,1,0),(g k0 s).2) (cond (x.op == 13 && !((g k0 s).1.1 == 0)) ((1,1,0),(g k0 s).2) (cond (x.op == 18 && (g k0 s).1.1 == 0) (LE g r (g k0 s).2 s) (g k1 (g k0 s).2))):Cc))
   have up:∀ (φ:Ex→CT→Cc),(∀ k∈k0 :: k1 :: r,∀ s,s.2 <+: (φ k s).2.2)→(cond (x.op == 12 && (φ k0 s).1.1 == 0) ((0,1,0),(φ k0 s).2) (cond (x.op == 13 && !((φ k0 s).1.1 == 0)) ((1,1,0),(φ k0 s).2) (cond (x.op == 18 && (φ k0 s).1.1 == 0) (LE φ r (φ k0 s).2 s) (φ k1 (φ k0 s).2))):Cc).1.2.2=0→(φ k0 s).2.2 <+: (cond (x.op == 12 && (φ k0 s).1.1 == 0) ((0,1,0),(φ k0 s).2) (cond (x.op == 13 && !((φ k0 s).1.1 == 0)) ((1,1,0),(φ k0 s).2) (cond (x.op == 18 && (φ k0 s).1.1 == 0) (LE φ r (φ k0 s).2 s) (φ k1 (φ k0 s).2))):Cc).2.2:=by
    intro φ hφ
    cases (x.op == 12 && (φ k0 s).1.1 == 0)
    ·simp only [cond_false]
     cases (x.op == 13 && !((φ k0 s).1.1 == 0))
     ·simp only [cond_false]
      cases (x.op == 18 && (φ k0 s).1.1 == 0)
      ·exact fun _=>hφ k1 (by simp) _
      ·cases r with
       | nil=>exact fun h=>by cases h
       | cons k2 r=>exact fun _=>hφ k2 (by simp) _
     ·exact fun _=>Es _
    ·exact fun _=>Es _
   cases hf:!((f k0 s).1.2.2 == 0)
   ·cases hg:!((g k0 s).1.2.2 == 0)
    ·show Gd U (cond (x.op == 12 && (f k0 s).1.1 == 0) ((0,1,0),(f k0 s).2) (cond (x.op == 13 && !((f k0 s).1.1 == 0)) ((1,1,0),(f k0 s).2) (cond (x.op == 18 && (f k0 s).1.1 == 0) (LE f r (f k0 s).2 s) (f k1 (f k0 s).2))):Cc) (cond (x.op == 12 && (g k0 s).1.1 == 0) ((0,1,0),(g k0 s).2) (cond (x.op == 13 && !((g k0 s).1.1 == 0)) ((1,1,0),(g k0 s).2) (cond (x.op == 18 && (g k0 s).1.1 == 0) (LE g r (g k0 s).2 s) (g k1 (g k0 s).2))):Cc)
     intro a h2 e d
     have he:f k0 s=g k0 s:=hd k0 (by simp) s U (bz hf) (bz hg) ((up f c a).trans e) ((up g b h2).trans d)
     clear up hf hg
     revert a h2 e d
     rw [← he]
     generalize f k0 s=q
     show Gd U (cond _ _ _) (cond _ _ _)
     cases (x.op == 12 && q.1.1 == 0)
     ·show Gd U (cond _ _ _) (cond _ _ _)
      cases (x.op == 13 && !(q.1.1 == 0))
      ·show Gd U (cond _ _ _) (cond _ _ _)
       cases (x.op == 18 && q.1.1 == 0)
       ·exact hd k1 (by simp) q.2 U
       ·cases r with
        | nil=>
         show Gd U ((0,0,1),s) ((0,0,1),s)
         exact fun _ _ _ _=>rfl
        | cons k2 r=>exact hd k2 (by simp) q.2 U
      ·show Gd U ((1,1,0),q.2) ((1,1,0),q.2)
       exact fun _ _ _ _=>rfl
     ·show Gd U ((0,1,0),q.2) ((0,1,0),q.2)
      exact fun _ _ _ _=>rfl
    ·exact fun _ h2=>absurd h2 (bn hg)
   ·exact fun a=>absurd a (bn hf)
theorem Mt (F G:BD→Int×Int×Int):∀ (h:Nat) (x:Ex) (s:CT) (U:List DP),Gd U (As F h x s) (As G h x s)
 | 0,_,_,_=>fun _ _ _ _=>rfl
 | h + 1,x,s,U=>by
  unfold As
  cases (x.op == 1)
  ·show Gd U (cond _ _ _) (cond _ _ _)
   cases (x.op == 2)
   ·show Gd U (cond _ _ _) (cond _ _ _)
    cases (x.op == 3 || (x.op == 20 || x.op == 21))
    ·show Gd U (cond _ _ _) (cond _ _ _)
     cases (x.op == 18 || (x.op == 12 || x.op == 13))
     ·have c:=Rb (As F h) (As G h) x.ks (fun k _ s U=>Mt F G h k s U) (fun k _ s=>H0 F h k s) (fun k _ s=>H0 G h k s) 0 (0,0) (0,0) s U
      show Gd U (match CZ (As F h) x.ks 0 (0,0) (0,0) s with
       | (e,a,b,s')=>cond (!(e == 0)) ((0,0,e),s') (cond (x.op == 4) (Cj F (x.op,x.nm,0,a.1,a.2) s') (CR x a.1 a.2 b.1 b.2,s'))) (match CZ (As G h) x.ks 0 (0,0) (0,0) s with
       | (e,a,b,s')=>cond (!(e == 0)) ((0,0,e),s') (cond (x.op == 4) (Cj G (x.op,x.nm,0,a.1,a.2) s') (CR x a.1 a.2 b.1 b.2,s')))
      generalize CZ (As F h) x.ks 0 (0,0) (0,0) s=q at c ⊢
      generalize CZ (As G h) x.ks 0 (0,0) (0,0) s=q' at c ⊢
      obtain ⟨e,a,b,i⟩:=q
      obtain ⟨e',m,l,j⟩:=q'
      show Gd U (cond _ _ _) (cond _ _ _)
      cases hf:!(e == 0)
      ·cases hg:!(e' == 0)
       ·show Gd U (cond _ _ _) (cond _ _ _)
        cases (x.op == 4)
        ·intro g h2 f d
         have he:=c (bz hf) (bz hg) f d
         simp only [Prod.mk.injEq] at he
         obtain ⟨rfl,rfl,rfl,rfl⟩:=he
         rfl
        ·intro g h2 f d
         have he:=c (bz hf) (bz hg) ((KT F _ i).trans f) ((KT G _ j).trans d)
         simp only [Prod.mk.injEq] at he
         obtain ⟨rfl,rfl,rfl,rfl⟩:=he
         exact RZ F G _ i U g h2 f d
       ·exact fun _ h2=>absurd h2 (bn hg)
      ·exact fun g=>absurd g (bn hf)
     ·exact XD (As F h) (As G h) x (fun k _ s U=>Mt F G h k s U) (fun k _ s=>H0 F h k s) (fun k _ s=>H0 G h k s) s U
    ·exact RZ F G _ s U
   ·show Gd U (((DE (x.cnt == 1)).1,(DE (x.cnt == 1)).2,0),s) (((DE (x.cnt == 1)).1,(DE (x.cnt == 1)).2,0),s)
    exact fun _ _ _ _=>rfl
  ·show Gd U ((x.num,x.den,0),s) ((x.num,x.den,0),s)
   exact fun _ _ _ _=>rfl
theorem Wl (F G:BD→Int×Int×Int) (h:Nat) (d:Df) (s:CT) (b:(BA F h d s).1.2.2=0) (h2:(BA G h d s).1.2.2=0) (hu:(BA F h d s).2.2=(BA G h d s).2.2):BA F h d s=BA G h d s:=by
 have a:∀ H:BD→Int×Int×Int,(BA H h d s).2=(As H h d.body s).2∧((BA H h d s).1.2.2=0→(As H h d.body s).1.2.2=0):=by
  intro H
  unfold BA
  cases hc:!((As H h d.body s).1.2.2 == 0)
  ·exact ⟨by cases d.kind == 4 <;> rfl,fun _=>by simpa using hc⟩
  ·exact ⟨rfl,id⟩
 have he:As F h d.body s=As G h d.body s:=by
  refine Mt F G h d.body s (As F h d.body s).2.2 ((a F).2 b) ((a G).2 h2) (Es _) ?_
  rw [← (a F).1,hu,(a G).1]
  exact Es _
 unfold BA
 rw [he]
def Wd (ds:List Df) (sc:List (List UInt8×List Ha)) (pa:List Dn) (h:Nat) (O:List Nat) (e:Cr):Prop:=∃ i∈O,∃ nm,(BA (Bw false [] nm sc pa) h (ds.getD i default) ([],[])).1.2.2=0∧
 e=((ds.getD i default).name,(ds.getD i default).frm,(BA (Bw false [] nm sc pa) h (ds.getD i default) ([],[])).2.2,(BA (Bw false [] nm sc pa) h (ds.getD i default) ([],[])).1.1,(BA (Bw false [] nm sc pa) h (ds.getD i default) ([],[])).1.2.1)
theorem OW {ds:List Df} {sc:List (List UInt8×List Ha)} {pa:List Dn} {h:Nat} {fnd:List (Nat×Bool)} {O:List Nat}:∀ (r:List Nat) (nm:List (List UInt8×Int×Int)) (a:List Cr),(∀ i∈r,i∈O)→(∀ e∈a,Wd ds sc pa h O e)→∀ e∈(Dz ds sc pa h fnd r nm a).1,Wd ds sc pa h O e
 | [],_,_,_,ha=>ha
 | i :: r,nm,a,hr,ha=>by
  rw [Dz]
  have b:∀ j∈r,j∈O:=fun j c=>hr j (by simp [c])
  cases !((AO fnd i).getD false)
  ·simp only [cond_false]
   cases hc:!((BA (Bw false [] nm sc pa) h (ds.getD i default) ([],[])).1.2.2 == 0)
   ·refine OW r _ _ b fun e he=>?_
    rcases List.mem_append.1 he with he | he
    ·exact ha e he
    ·rw [List.mem_singleton.1 he]
     exact ⟨i,hr i (by simp),nm,by simpa using hc,rfl⟩
   ·exact fun e he=>by cases he
  ·exact OW r nm a b ha
theorem OV {ds:List Df} {sc:List (List UInt8×List Ha)} {pa:List Dn} {h:Nat} {fnd:List (Nat×Bool)}:∀ (r:List Nat) (nm:List (List UInt8×Int×Int)) (a:List Cr),(Dz ds sc pa h fnd r nm a).2=0→(a≠[]∨∃ i∈r,(AO fnd i).getD false=true)→(Dz ds sc pa h fnd r nm a).1≠[]
 | [],_,a,_,b=>by
  rcases b with b | ⟨i,hi,_⟩
  ·exact b
  ·cases hi
 | i :: r,nm,a,he,b=>by
  rw [Dz] at he ⊢
  cases hc:!((AO fnd i).getD false)
  ·rw [hc] at he
   simp only [cond_false] at he ⊢
   cases hc2:!((BA (Bw false [] nm sc pa) h (ds.getD i default) ([],[])).1.2.2 == 0)
   ·rw [hc2] at he
    exact OV r _ _ he (.inl (by simp))
   ·rw [hc2] at he
    simp only [cond_true] at he
    rw [he] at hc2
    cases hc2
  ·rw [hc] at he
   refine OV r nm a he ?_
   rcases b with b | ⟨j,d,c⟩
   ·exact .inl b
   ·rcases List.mem_cons.1 d with rfl | d
    ·rw [c] at hc; cases hc
    ·exact .inr ⟨j,d,c⟩
theorem XI {ds:List Df} {s:IR} {h:Nat}:∀ (l:List Cr) (a:List (List UInt8×Int×Int)) (n:Nat) (e:Cr),Kd ds s h l a=true→l[n]?=some e→∃ bf',Fc ds s h e bf'=true
 | [],_,_,_,_,he=>by simp at he
 | x :: l,a,n,e,hv,he=>by
  rw [Kd] at hv
  cases hc:!(Fc ds s h x a)
  ·rw [hc] at hv
   cases n with
   | zero=>
    obtain rfl:=Option.some.inj (show some x=some e from he)
    exact ⟨a,by simpa using hc⟩
   | succ n=>exact XI l _ n e hv (by simpa using he)
  ·rw [hc] at hv; cases hv
theorem MO {h:Nat} {d:Df} {s:IR} {e:Cr} {b:List (List UInt8×Int×Int)}:∀ (a:List DP) (m:List (BD×Int×Int)),Gm h d s e b a m=true→∃ m',dR h d e m'=true
 | [],m,hv=>⟨m,hv⟩
 | u :: a,m,hv=>by
  rw [Gm] at hv
  cases hc:!(KM s u b)
  ·rw [hc] at hv
   simp only [cond_false] at hv
   cases hc2:!(AO m u.1).isSome
   ·rw [hc2] at hv; exact MO a _ hv
   ·rw [hc2] at hv; exact MO a _ hv
  ·rw [hc] at hv; cases hv
theorem Pv {ds:List Df} {s:IR} {h:Nat} {e:Cr} {b:List (List UInt8×Int×Int)} (a:Fc ds s h e b=true):∃ r,(e.1,r)∈s.2.1∧(ds.getD r.toNat default).frm=e.2.1∧Ad e.2.2.2.1 e.2.2.2.2=true∧∃ m,(BA (Bw true m [] [] []) h (ds.getD r.toNat default) ([],[])).1.2.2=0∧(BA (Bw true m [] [] []) h (ds.getD r.toNat default) ([],[])).1.1=e.2.2.2.1∧(BA (Bw true m [] [] []) h (ds.getD r.toNat default) ([],[])).1.2.1=e.2.2.2.2∧(BA (Bw true m [] [] []) h (ds.getD r.toNat default) ([],[])).2.2=e.2.2.1:=by
 unfold Fc at a
 split at a
 ·cases a
 ·rename_i r hl
  refine ⟨r,FI hl,?_⟩
  cases hc1:(ds.getD r.toNat default).frm == e.2.1
  ·rw [hc1] at a; cases a
  ·cases hc2:Ad e.2.2.2.1 e.2.2.2.2
   ·rw [hc1,hc2] at a; cases a
   ·rw [hc1,hc2] at a
    replace a:cond (AO b e.1).isSome false (Gm h (ds.getD r.toNat default) s e b e.2.2.1 [])=true:=a
    cases hc3:(AO b e.1).isSome
    ·rw [hc3] at a
     obtain ⟨m,hm⟩:=MO _ _ a
     refine ⟨eq_of_beq hc1,rfl,m,?_⟩
     unfold dR at hm
     cases h1:(BA (Bw true m [] [] []) h (ds.getD r.toNat default) ([],[])).1.2.2 == 0
     ·rw [h1] at hm; cases hm
     ·rw [h1] at hm
      simp only [cond_true] at hm
      cases h2:IP ((BA (Bw true m [] [] []) h (ds.getD r.toNat default) ([],[])).1.1,(BA (Bw true m [] [] []) h (ds.getD r.toNat default) ([],[])).1.2.1) e.2.2.2
      ·rw [h2] at hm; cases hm
      ·rw [h2] at hm
       unfold IP at h2
       rw [Bool.and_eq_true,beq_iff_eq,beq_iff_eq] at h2
       exact ⟨eq_of_beq h1,h2.1,h2.2,of_decide_eq_true hm⟩
    ·rw [hc3] at a; cases a
theorem Qv {F:Df→Bool} {l:List Df} {x:Df} (hx:x∈l) (b:F x=true):Dk F l=true:=by
 have key:∀ (es:List Df) (i:Nat) (a:Int),x∈es→0≤Cs F es i a:=by
  intro es
  induction es with
  | nil=>intro i a h; cases h
  | cons e es ih=>
   intro i a h
   rw [Cs]
   cases hc:F e
   ·rcases List.mem_cons.1 h with rfl | h
    ·rw [b] at hc; cases hc
    ·exact ih (i + 1) a h
   ·show (0:Int)≤(i:Int)
    omega
 exact decide_eq_true (key l 0 0 hx)
theorem JE (ds:List Df):∀ (es:List Df) (i:Nat) (a:List (Int×Int)),a.length≤(CD ds es i a).1.length
 | [],_,_=>by rw [CD]; exact Nat.le_refl _
 | e :: es,i,a=>by
  have b:∀ v:Int×Int,a.length≤(CD ds es (i + 1) (a++[v])).1.length:=fun v=>Nat.le_trans (by simp) (JE ds es (i + 1) (a++[v]))
  have same:=JE ds es (i + 1) a
  rw [CD]
  cases Dk (fun x=>Ew x e) (ds.take i)
  ·simp only [cond_false]
   cases e.kind == 5
   ·simp only [cond_false]
    cases (cond (e.kind == 3) (true) (e.kind == 4))
    ·exact same
    ·simp only [cond_true]
     cases !(C9 e (((AX ds)).1) (((AX ds)).2.1) (((AX ds)).2.2) == 0)
     ·exact same
     ·exact b _
   ·simp only [cond_true]
    cases !((Cq e (((AX ds)).1)) == 0)
    ·exact same
    ·exact b _
  ·exact b _
theorem My (ds:List Df):∀ (es:List Df) (i:Nat),(CD ds es i []).1.length=0→∀ (j:Nat) e,es[j]?=some e→Dk (fun x=>Ew x e) (ds.take (i + j))=false
 | [],_,_,_,_,he=>by simp at he
 | e :: es,i,h,j,e',he=>by
  rw [CD] at h
  have b:∀ v:Int×Int,(CD ds es (i + 1) ([]++[v])).1.length=0→False:=fun v h=>by
   have:=JE ds es (i + 1) ([]++[v])
   rw [h] at this
   simp at this
  cases hc:Dk (fun x=>Ew x e) (ds.take i)
  ·rw [hc] at h
   simp only [cond_false] at h
   have a:(CD ds es (i + 1) []).1.length=0:=by
    revert h
    cases e.kind == 5
    ·simp only [cond_false]
     cases (cond (e.kind == 3) (true) (e.kind == 4))
     ·exact id
     ·simp only [cond_true]
      cases !(C9 e (((AX ds)).1) (((AX ds)).2.1) (((AX ds)).2.2) == 0)
      ·exact id
      ·exact fun h=>(b _ h).elim
    ·simp only [cond_true]
     cases !((Cq e (((AX ds)).1)) == 0)
     ·exact id
     ·exact fun h=>(b _ h).elim
   cases j with
   | zero=>
    obtain rfl:=Option.some.inj (show some e=some e' from he)
    exact hc
   | succ j=>
    have:=My ds es (i + 1) a j e' (by simpa using he)
    rwa [show i + 1 + j=i + (j + 1) by omega] at this
  ·rw [hc] at h
   exact (b _ h).elim
def Oc (ds:List Df) (day:Int) (i:Nat):Bool:=cond (cond ((ds.getD i default).kind == 1) (true) ((ds.getD i default).kind == 5)) (true) (cond (decide ((ds.getD i default).frm≤day)) (!(DL ds day i)) (false))
theorem IQ {ds:List Df} {day:Int}:∀ (es:List Df) (i:Nat) (a:List Nat),es=ds.drop i→(∀ x∈a,Oc ds day x=true)→∀ x∈Ci ds day es i a,Oc ds day x=true
 | [],_,_,_,h=>by rw [Ci]; exact h
 | e :: es,i,a,he,h=>by
  have b:i < ds.length:=by
   have:=congrArg List.length he
   rw [List.length_cons,List.length_drop] at this
   omega
  have c:=List.getElem_cons_drop b
  rw [← he] at c
  obtain ⟨f,h2⟩:=List.cons.inj c
  have hd:ds.getD i default=e:=by
   rw [List.getD_eq_getElem?_getD,List.getElem?_eq_getElem b,f]; rfl
  rw [Ci]
  have d:Oc ds day i=cond (cond (e.kind == 1) (true) (e.kind == 5)) (true) (cond (decide (e.frm≤day)) (!(DL ds day i)) (false)):=by unfold Oc; rw [hd]
  cases hc:cond (cond (e.kind == 1) (true) (e.kind == 5)) (true) (cond (decide (e.frm≤day)) (!(DL ds day i)) (false))
  ·exact IQ es (i + 1) a h2.symm h
  ·refine IQ es (i + 1) (a++[i]) h2.symm fun x hx=>?_
   rcases List.mem_append.1 hx with hx | hx
   ·exact h x hx
   ·rw [List.mem_singleton.1 hx,d,hc]
theorem Nz {n:List UInt8} {ds:List Df} {day:Int} {i:Nat} (h:i∈C3 n ds day):Oc ds day i=true:=by
 unfold C3 at h
 revert h
 cases !(DF n ds day == 0)
 ·exact fun h=>IQ ds 0 [] (by simp) (fun x hx=>by cases hx) i h
 ·intro h; cases h
theorem Kj {ds:List Df} {day:Int} {i:Nat} {x:Df} (d:x.kind=(ds.getD i default).kind) (hn:x.name=(ds.getD i default).name) (hd:x.frm≤day) (hf:(ds.getD i default).frm < x.frm):∀ (es:List Df) (b:Nat) (a:Bool),x∈es→Cv ds day i es b a=true
 | [],_,_,h=>by cases h
 | e :: es,b,a,h=>by
  rw [Cv]
  rcases List.mem_cons.1 h with rfl | h
  ·rw [show (x.kind == (ds.getD i default).kind)=true from beq_iff_eq.2 d,decide_eq_true hn,decide_eq_false (by omega:¬ day < x.frm),decide_eq_true hf]
   rfl
  ·have c:=Kj d hn hd hf es (b + 1) a h
   cases (cond (cond (!(e.kind == (ds.getD i default).kind)) (true) (!(decide (e.name=(ds.getD i default).name)))) (true) (decide (day < e.frm)))
   ·simp only [cond_false]
    cases (cond (decide ((ds.getD i default).frm < e.frm)) (true) (cond (e.frm == (ds.getD i default).frm) (decide ((b:Int) < (i:Int))) (false)))
    ·exact c
    ·rfl
   ·exact c
theorem Mw {d:Df} (h:Al d=true):d.kind=3∨d.kind=4:=by
 unfold Al at h
 cases hc:d.kind == 3
 ·rw [hc] at h; exact .inr (eq_of_beq h)
 ·exact .inl (eq_of_beq hc)
theorem Wc {ds:List Df} {day:Int} {i:Nat} (ha:Oc ds day i=true) (hc:Al (ds.getD i default)=true):(ds.getD i default).frm≤day∧DL ds day i=false:=by
 have a:=Mw hc
 unfold Oc at ha
 rw [show ((ds.getD i default).kind == 1)=false by rcases a with a | a <;> rw [a] <;> rfl,show ((ds.getD i default).kind == 5)=false by rcases a with a | a <;> rw [a] <;> rfl] at ha
 replace ha:cond (decide ((ds.getD i default).frm≤day)) (!(DL ds day i)) false=true:=ha
 cases h1:decide ((ds.getD i default).frm≤day)
 ·rw [h1] at ha; cases ha
 ·rw [h1] at ha
  exact ⟨of_decide_eq_true h1,by simpa using ha⟩
theorem eF {a b:Df} (hc:Fp a b=false) (hn:a.name=b.name) (ha:Al a=true) (hb:Al b=true):a.kind=b.kind∧a.frm≠b.frm:=by
 have c:=Mw ha
 have h2:=Mw hb
 unfold Fp at hc
 rw [decide_eq_true hn,show (a.kind == 5)=false by rcases c with h | h <;> rw [h] <;> rfl,show (b.kind == 5)=false by rcases h2 with h | h <;> rw [h] <;> rfl,show (a.kind == 1)=false by rcases c with h | h <;> rw [h] <;> rfl] at hc
 simp only [Bool.not_true,cond_false] at hc
 cases hk:a.kind == b.kind
 ·rw [hk] at hc; cases hc
 ·rw [hk] at hc
  simp only [Bool.not_true,cond_false] at hc
  refine ⟨eq_of_beq hk,fun hf=>?_⟩
  rw [show (a.frm == b.frm)=true from beq_iff_eq.2 hf] at hc
  revert hc
  cases (!((((Ah a.kind a.tb a.tm a.th a.td).1) == ((Ah b.kind b.tb b.tm b.th b.td).1)) && (((Ah a.kind a.tb a.tm a.th a.td).2.1 == (Ah b.kind b.tb b.tm b.th b.td).2.1) && (((Ah a.kind a.tb a.tm a.th a.td).2.2.1 == (Ah b.kind b.tb b.tm b.th b.td).2.2.1) && ((Ah a.kind a.tb a.tm a.th a.td).2.2.2 == (Ah b.kind b.tb b.tm b.th b.td).2.2.2))))) <;> intro hc <;> cases hc
theorem Va {n:List UInt8} {ds:List Df} {day:Int} (a:Cd n ds day=0):(∀ (j:Nat) e,ds[j]?=some e→Dk (fun x=>Ew x e) (ds.take j)=false)∧(Ag n ds day).2=0:=by
 unfold Cd at a
 cases h1:!((CX n ds).2 == 0)
 ·rw [h1] at a
  simp only [cond_false] at a
  cases h2:(cond (decide (day < 0)) true (decide (84005 < day)))
  ·rw [h2] at a
   simp only [cond_false] at a
   cases h3:decide (0 < ((CX n ds).1.length:Int))
   ·rw [h3] at a
    refine ⟨fun j e he=>?_,a⟩
    have hl:(CX n ds).1.length=0:=by have:=of_decide_eq_false h3; omega
    unfold CX at hl
    rw [Ny h1] at hl
    have:=My ds ds 0 hl j e he
    rwa [Nat.zero_add] at this
   ·rw [h3] at a
    have b:0 < (CX n ds).1.length:=by have:=of_decide_eq_true h3; omega
    exact absurd a (Ri n ds _ (Dt b))
  ·rw [h2] at a; cases a
 ·rw [h1] at a
  simp only [cond_true] at a
  rw [a] at h1
  cases h1
theorem XK {n:List UInt8} {ds:List Df} {day:Int} (o:Cd n ds day=0) {i j:Nat} (hi:i∈C3 n ds day) (f:j∈C3 n ds day) (k:Al (ds.getD i default)=true) (g:Al (ds.getD j default)=true) (hn:(ds.getD i default).name=(ds.getD j default).name) (d:i < j):False:=by
 have b:=Fm _ hi
 have a:=Fm _ f
 have c:=(Va o).1 j _ (getD_some default a)
 have hm:ds.getD i default∈ds.take j:=by
  have:(ds.take j)[i]?=some (ds.getD i default):=by rw [List.getElem?_take,if_pos d]; exact getD_some default b
  exact List.mem_of_getElem? this
 have hc:Fp (ds.getD i default) (ds.getD j default)=false:=by
  cases hc:Fp (ds.getD i default) (ds.getD j default)
  ·rfl
  ·have:=Qv (F:=fun x=>Ew x (ds.getD j default)) hm hc
   rw [c] at this
   cases this
 obtain ⟨e,hf⟩:=eF hc hn k g
 obtain ⟨q,m⟩:=Wc (Nz hi) k
 obtain ⟨p,l⟩:=Wc (Nz f) g
 rcases Int.lt_or_gt_of_ne hf with h | h
 ·have:=Kj (i:=i) e.symm hn.symm p h ds 0 false (Dt a)
  rw [show Cv ds day i ds 0 false=DL ds day i from rfl,m] at this
  cases this
 ·have:=Kj (i:=j) e hn q h ds 0 false (Dt b)
  rw [show Cv ds day j ds 0 false=DL ds day j from rfl,l] at this
  cases this
theorem ACK {n:List UInt8} {ds:List Df} {day:Int} (a:Cd n ds day=0) {i j:Nat} (hi:i∈C3 n ds day) (b:j∈C3 n ds day) (d:Al (ds.getD i default)=true) (c:Al (ds.getD j default)=true) (hn:(ds.getD i default).name=(ds.getD j default).name):i=j:=by
 rcases Nat.lt_trichotomy i j with h | h | h
 ·exact (XK a hi b d c hn h).elim
 ·exact h
 ·exact (XK a b hi c d hn.symm h).elim
theorem Hl {ds:List Df} {p1:Int}:∀ (es:List Nat) (a0:Int) (a:List Nat) (f:List (Nat×List Nat)),(∀ i∈(Bl ds p1 es a0 a f).1,i∈a∨i∈es)∧((Bl ds p1 es a0 a f).2.2=0→(∀ i∈a,i∈(Bl ds p1 es a0 a f).1)∧∀ i∈es,Al (ds.getD i default)=true→i∈(Bl ds p1 es a0 a f).1)
 | [],a0,a,f=>by rw [Bl]; exact ⟨fun i hi=>.inl hi,fun _=>⟨fun i hi=>hi,fun i hi=>by cases hi⟩⟩
 | e :: es,a0,a,f=>by
  rw [Bl]
  cases hc:!(Al (ds.getD e default))
  ·simp only [cond_false]
   cases hc2:!((Cf ds (An ds p1) e).2 == 0)
   ·have d:=Hl (ds:=ds) (p1:=p1) es a0 (a++[e]) ((e,(Cf ds (An ds p1) e).1) :: f)
    refine ⟨fun i hi=>?_,fun c=>⟨fun i hi=>(d.2 c).1 i (by simp [hi]),fun i hi b=>?_⟩⟩
    ·rcases d.1 i hi with h | h
     ·rcases List.mem_append.1 h with h | h
      ·exact .inl h
      ·rw [List.mem_singleton.1 h]; exact .inr (by simp)
     ·exact .inr (by simp [h])
    ·rcases List.mem_cons.1 hi with rfl | hi
     ·exact (d.2 c).1 i (by simp)
     ·exact (d.2 c).2 i hi b
   ·refine ⟨fun i hi=>(by cases hi),fun c=>?_⟩
    simp only [cond_true] at c
    rw [c] at hc2
    cases hc2
  ·have d:=Hl (ds:=ds) (p1:=p1) es a0 a f
   refine ⟨fun i hi=>?_,fun c=>⟨(d.2 c).1,fun i hi b=>?_⟩⟩
   ·rcases d.1 i hi with h | h
    ·exact .inl h
    ·exact .inr (by simp [h])
   ·rcases List.mem_cons.1 hi with rfl | hi
    ·rw [b] at hc; cases hc
    ·exact (d.2 c).2 i hi b
theorem Qd:∀ (l m:List Nat),l.Nodup→(∀ y∈l,y∈m)→l.length≤m.length
 | [],_,_,_=>Nat.zero_le _
 | x :: l,m,hd,hs=>by
  rw [List.nodup_cons] at hd
  have c:=Qd l (m.erase x) hd.2 (fun y b=>by
   have a:y≠x:=fun e=>hd.1 (e ▸ b)
   exact (List.mem_erase_of_ne a).2 (hs y (by simp [b])))
  have hx:=hs x (by simp)
  rw [List.length_erase_of_mem hx] at c
  have:=List.length_pos_of_mem hx
  rw [List.length_cons]
  omega
theorem Rw {F:Nat→Bool} {l:List Nat} (h:decide (CM F l < 0)=false):F (l.getD (CM F l).toNat default)=true:=by
 have key:∀ (es:List Nat) (i:Nat) (a:Int),es=l.drop i→0≤CS F es i a→F (l.getD (CS F es i a).toNat default)=true:=by
  intro es
  induction es with
  | nil=>intro i a _ h; rw [CS] at h; exact absurd h (by decide)
  | cons e es ih=>
   intro i a he h
   have b:i < l.length:=by
    have:=congrArg List.length he
    rw [List.length_cons,List.length_drop] at this
    omega
   have c:=List.getElem_cons_drop b
   rw [← he] at c
   obtain ⟨d,h2⟩:=List.cons.inj c
   rw [CS] at h ⊢
   cases hc:F e
   ·rw [hc] at h
    exact ih (i + 1) a h2.symm h
   ·show F (l.getD ((i:Int)).toNat default)=true
    rw [Int.toNat_natCast,List.getD_eq_getElem?_getD,List.getElem?_eq_getElem b,d]
    exact hc
 have d:=of_decide_eq_false h
 exact key l 0 0 (by simp) (by unfold CM at d; omega)
theorem Pl {nodes:List Nat} {ns:List (Nat×List Nat)} {x:Nat} (hx:x∈nodes):∀ (k:Nat) (r:List Nat) (c:List (Nat×Bool)),r.Nodup→(∀ i∈r,i∈nodes)→(∀ i∈r,(AO c i).getD false=true)→nodes.length < k + r.length→(GP nodes ns k r c).2=0→x∈(GP nodes ns k r c).1
 | 0,r,c,hd,hs,_,hk,_=>by
  have:=Qd r nodes hd hs
  omega
 | k + 1,r,c,hd,hs,hm,hk,h0=>by
  rw [GP] at h0 ⊢
  cases hc:decide ((r.length:Int) < (nodes.length:Int))
  ·have l:nodes.length≤r.length:=by have:=of_decide_eq_false hc; omega
   show x∈r
   refine Classical.byContradiction fun j=>?_
   have:=Qd r (nodes.erase x) hd (fun y f=>(List.mem_erase_of_ne (fun e=>j (by rw [← e]; exact f))).2 (hs y f))
   rw [List.length_erase_of_mem hx] at this
   have:=List.length_pos_of_mem hx
   omega
  ·rw [hc] at h0
   simp only [cond_true] at h0 ⊢
   cases hc2:decide (CM (De c ns) nodes < 0)
   ·rw [hc2] at h0
    simp only [cond_false] at h0 ⊢
    have g:=Rw hc2
    have d:=Dt (Jw hc2).2
    generalize nodes.getD (CM (De c ns) nodes).toNat default=y at h0 g d ⊢
    have f:(AO c y).getD false=false:=by
     unfold De at g
     cases h:(AO c y).getD false
     ·rfl
     ·rw [h] at g; cases g
    refine Pl hx k (r++[y]) _ ?_ ?_ ?_ (by rw [List.length_append,List.length_singleton]; omega) h0
    ·rw [List.nodup_append]
     refine ⟨hd,by simp,fun a ha b hb=>?_⟩
     rw [List.mem_singleton.1 hb]
     intro e
     have:=hm a ha
     rw [e,f] at this
     cases this
    ·intro i hi
     rcases List.mem_append.1 hi with hi | hi
     ·exact hs i hi
     ·rw [List.mem_singleton.1 hi]; exact d
    ·intro i hi
     rw [AO]
     split
     ·rfl
     ·rename_i hne
      rcases List.mem_append.1 hi with hi | hi
      ·exact hm i hi
      ·rw [List.mem_singleton.1 hi] at hne; exact absurd rfl hne
   ·rw [hc2] at h0
    cases h0
theorem JX {n:List UInt8} {ds:List Df} {day:Int}:(∀ i∈(Ag n ds day).1,i∈C3 n ds day)∧((Ag n ds day).2=0→∀ i∈C3 n ds day,Al (ds.getD i default)=true→i∈(Ag n ds day).1):=by
 have hg:(∀ i∈(BJ n ds day).1,i∈C3 n ds day)∧((BJ n ds day).2.2=0→∀ i∈C3 n ds day,Al (ds.getD i default)=true→i∈(BJ n ds day).1):=by
  unfold BJ C3
  cases !(DF n ds day == 0)
  ·have h:=Hl (ds:=ds) (p1:=day) (An ds day) 0 [] []
   exact ⟨fun i hi=>(by rcases h.1 i hi with h | h; cases h; exact h),fun b=>(h.2 b).2⟩
  ·exact ⟨fun i hi=>(by cases hi),fun _ i hi=>(by cases hi)⟩
 unfold Ag
 cases hc:!((BJ n ds day).2.2 == 0)
 ·have h2:=KQ (nodes:=(BJ n ds day).1) (ns:=(BJ n ds day).2.1) ((BJ n ds day).1.length + 1) [] [] (fun j a=>(by cases a)) (Nat.zero_le _)
  refine ⟨fun i hi=>hg.1 i (h2.1 i hi),fun b i hi c=>?_⟩
  exact Pl (hg.2 (by simpa using hc) i hi c) _ [] [] (by simp) (fun j a=>by cases a) (fun j a=>by cases a) (by simp) b
 ·exact ⟨fun i hi=>(by cases hi),fun b=>absurd b (bn hc)⟩
theorem Li {x:Nat}:∀ (r:List Nat) (m:List (Nat×Bool)) (q:List Nat),(AO m x).getD false=true→(AO (Gi r m q).1 x).getD false=true
 | [],_,_,h=>h
 | j :: r,m,q,h=>by
  rw [Gi]
  cases !((AO m j).getD false)
  ·exact Li r m q h
  ·refine Li r _ _ ?_
   rw [AO]
   split
   ·rfl
   ·exact h
theorem QI {a:Nat→List Nat×Int} {x:Nat}:∀ (h:Nat) (m:List (Nat×Bool)) (q:List Nat),(Hg a h m q).2=0→(AO m x).getD false=true→(AO (Hg a h m q).1 x).getD false=true
 | 0,_,_,_,hm=>hm
 | _ + 1,_,[],_,hm=>hm
 | h + 1,m,i :: q,h0,hm=>by
  rw [Hg] at h0 ⊢
  cases hc:!((a i).2 == 0)
  ·rw [hc] at h0
   exact QI h _ _ h0 (Li _ _ _ hm)
  ·rw [hc] at h0
   simp only [cond_true] at h0
   rw [h0] at hc
   cases hc
theorem L5 {n:List UInt8} {ds:List Df} {day:Int} {h:Nat} {ins:List DQ} {pa:List Dn} {nm:List UInt8} (a:(Bm n ds day h ins pa nm).2=0):Cd n ds day=0∧(Bm n ds day h ins pa nm).1≠[]∧∀ e∈(Bm n ds day h ins pa nm).1,Wd ds (Bi n ds day).2.2 pa h (Ag n ds day).1 e:=by
 unfold Bm at a ⊢
 cases hc:!(Cd n ds day == 0)
 ·rw [hc] at a
  have c:Cd n ds day=0:=by simpa using hc
  simp only [cond_false] at a ⊢
  refine ⟨c,?_⟩
  cases hl:AO (Bi n ds day).2.1 nm with
  | none=>rw [hl] at a; cases a
  | some r=>
   rw [hl] at a
   simp only at a ⊢
   cases hc2:!((DZ n ds day r.toNat).2 == 0)
   ·rw [hc2] at a
    simp only [cond_false] at a ⊢
    refine ⟨OV _ _ _ a (.inr ?_),OW _ _ _ (fun i hi=>hi) (fun e he=>by cases he)⟩
    obtain ⟨x,hx,d,b⟩:=Jm _ (FI hl)
    obtain rfl:r=(x:Int):=(Prod.mk.inj d).2
    refine ⟨x,JX.2 (Va c).2 x hx b,QI _ _ _ (bz hc2) ?_⟩
    rw [Int.toNat_natCast,AO,if_pos rfl]
    rfl
   ·rw [hc2] at a
    simp only [cond_true] at a
    rw [a] at hc2
    cases hc2
 ·rw [hc] at a
  simp only [cond_true] at a
  rw [a] at hc
  cases hc
theorem XJ {n:List UInt8} {ds:List Df} {day:Int} {h:Nat} {l:List Cr} (hv:Fy n ds day h l=true) {k:Nat} {e:Cr} (he:l[k]?=some e):∃ bf,Fc ds (Bi n ds day) h e bf=true:=by
 unfold Fy at hv
 cases hc:(cond (cond (!(Cd n ds day == 0)) true ((l.length:Int) == 0)) true (!(FG l [])))
 ·rw [hc] at hv
  exact XI l [] k e hv he
 ·rw [hc] at hv; cases hv
theorem Nt {n:List UInt8} {ds:List Df} {day:Int} {h:Nat} {ins:List DQ} {pa:List Dn} {nm:List UInt8} (w:(Bm n ds day h ins pa nm).2=0) {k:Nat} {e e':Cr} (he:(Bm n ds day h ins pa nm).1[k]?=some e) (hn:e'.1=e.1) (hu:e'.2.2.1=e.2.2.1) (hv:Fy n ds day h ((Bm n ds day h ins pa nm).1.set k e')=true):e'.2.1=e.2.1∧e'.2.2.2=e.2.2.2∧Ad e'.2.2.2.1 e'.2.2.2.2=true:=by
 obtain ⟨t,_,c⟩:=L5 w
 obtain ⟨i,hi,a,f,rfl⟩:=c e (List.mem_of_getElem? he)
 have u:k < (Bm n ds day h ins pa nm).1.length:=(List.getElem?_eq_some_iff.1 he).1
 obtain ⟨y,v⟩:=XJ hv (k:=k) (e:=e') (by rw [List.getElem?_set,if_pos rfl,if_pos u])
 obtain ⟨r,hm,hf,b,m,q,p,o,l⟩:=Pv v
 obtain ⟨x,hx,s,d⟩:=Jm _ hm
 obtain ⟨g,rfl⟩:=Prod.mk.inj s
 have j:=ACK t (JX.1 i hi) hx (LA i hi) d (hn.symm.trans g)
 rw [Int.toNat_natCast,← j] at hf q p o l
 have hd:=Wl (Bw false [] a (Bi n ds day).2.2 pa) (Bw true m [] [] []) h (ds.getD i default) ([],[]) f q (by rw [l,hu])
 refine ⟨hf.symm,?_,b⟩
 show e'.2.2.2=((BA (Bw false [] a (Bi n ds day).2.2 pa) h (ds.getD i default) ([],[])).1.1,(BA (Bw false [] a (Bi n ds day).2.2 pa) h (ds.getD i default) ([],[])).1.2.1)
 rw [hd,p,o]
theorem W1 {n:List UInt8} {ds:List Df} {day:Int} {h:Nat} {l:List Cr} {k:Nat} {e':Cr} (c:k < l.length) (hn:e'.1=[104]) (g:∀ d∈ds,Al d=true→d.name≠[104]):Fy n ds day h (l.set k e')=false:=by
 cases hv:Fy n ds day h (l.set k e')
 ·rfl
 ·obtain ⟨i,f⟩:=XJ hv (k:=k) (e:=e') (by rw [List.getElem?_set,if_pos rfl,if_pos c])
  obtain ⟨r,hm,_⟩:=Pv f
  obtain ⟨x,hx,b,a⟩:=Jm _ hm
  exact absurd ((Prod.mk.inj b).1.symm.trans hn) (g _ (Dt (Fm _ hx)) a)
theorem d7 {n:List UInt8} {ds:List Df} {day:Int} {h:Nat}:Fy n ds day h []=false:=by
 unfold Fy
 cases !(Cd n ds day == 0) <;> rfl
end Go.Proofs.YtkjbdagicjbjjaaGreat

/- Contracts of functions, part 45. -/
import Derived.Test.YtkjbdagicjbjjaaGreatTs44
import Derived.Test.YtkjbdagicjbjjaaGreatTs41
import Derived.Test.YtkjbdagicjbjjaaGreatTs12
set_option linter.all false
namespace Go.Proofs.YtkjbdagicjbjjaaGreat
noncomputable section
open Go.RowKit
set_option maxRecDepth 100000
set_option maxHeartbeats 2000000
theorem ZJ:∀ (h:Nat) {x:Ex},Fy h x→Fy (h + 1) x
 | 0,_,h=>h.elim
 | h + 1,_,⟨h1,h2,h3,h4,h5,h6,h7⟩=>⟨h1,h2,h3,h4,h5,h6,fun k a=>ZJ h (h7 k a)⟩
theorem ZL {w:World}:∀ {ds:List Df} {rs:List (List Value)},EY CN w ds rs→∃ xs:List EI,xs.map (·.1)=ds∧xs.map (·.2)=rs∧∀ x∈xs,Ej CN w x.1 x.2
 | [],rs,h=>⟨[],rfl,by rw [show rs=[] from h]; rfl,fun x hx=>by cases hx⟩
 | d :: ds,rs,h=>by
  obtain ⟨c,g,rfl,a,h2⟩:=h
  obtain ⟨xs,f,e,b⟩:=ZL h2
  refine ⟨(d,c) :: xs,by rw [List.map_cons,f],by rw [List.map_cons,e],fun x hx=>?_⟩
  rcases List.mem_cons.1 hx with rfl | hx
  ·exact a
  exact b x hx
theorem ZM {w:World}:∀ {xs:List EI} {rs:List (List Value)},(∀ x∈xs,Ej CN w x.1 x.2)→ET Iv xs rs→EY CN w (xs.map (·.1)) rs
 | [],[],_,_=>rfl
 | [],_ :: _,_,h=>h.elim
 | _ :: _,[],_,h=>h.elim
 | x :: xs,r :: rs,h,hr=>by
  refine ⟨r,rs,rfl,?_,ZM (fun q a=>h q (by simp [a])) hr.2⟩
  rw [hr.1.1]
  exact h x (by simp)
theorem YQ {w:World} {A:Option Addr} {l:List C4} (h:rowsSt w A l) (k:Nat):rowsSt w A (l.take k):=by
 obtain ⟨rs,a,h2⟩:=h
 refine ⟨rs.take k,?_,MU h2 k⟩
 clear h2
 induction l generalizing rs k with
 | nil=>
  cases rs with
  | nil=>rw [List.take_nil,List.take_nil]; trivial
  | cons r rs=>exact a.elim
 | cons e l ih=>
  cases rs with
  | nil=>exact a.elim
  | cons r rs=>
   cases k with
   | zero=>trivial
   | succ k=>exact ⟨a.1,ih k rs a.2⟩
theorem fZ {l:List C4} (h:JH l) (k:Nat):JH (l.take k):=⟨by rw [List.length_take]; have:=h.1; omega,fun e he=>h.2 e (List.mem_of_mem_take he)⟩
theorem JE.cells {b:Nat} {w:World} {A:Option Addr} {c:Nat} {ds:List Df} (h:JE b w A c ds):∃ xs:List EI,xs.map (·.1)=ds∧(∀ u,CG b w u→(∀ x∈xs,Ej CN u x.1 x.2)∧DH CN u 21 A (xs.map (·.2)))∧∀ x∈xs,Iv x x.2:=by
 obtain ⟨rs,a⟩:=h.rowsX
 obtain ⟨xs,e,d,g⟩:=ZL (a w (CG.refl b w)).1
 refine ⟨xs,e,fun u hu=>⟨?_,by rw [d]; exact (a u hu).2⟩,fun x hx=>L5 (g x hx)⟩
 have f:=(a u hu).1
 rw [← e,← d] at f
 clear e d g a
 induction xs with
 | nil=>intro x hx; cases hx
 | cons y xs ih=>
  obtain ⟨c,j,hc,h2,i⟩:=f
  rw [List.map_cons] at hc
  obtain ⟨rfl,rfl⟩:=List.cons.inj hc
  intro x hx
  rcases List.mem_cons.1 hx with rfl | hx
  ·exact h2
  exact ih i x hx
theorem Y4 {xs:List EI} (h:∀ x∈xs,Iv x x.2):ET Iv xs (xs.map (·.2)):=by
 induction xs with
 | nil=>trivial
 | cons x xs ih=>exact ⟨h x (by simp),ih fun q a=>h q (by simp [a])⟩
attribute [local irreducible] BD BP AC AD AF Ar AZ AM Aw Bk C6 BV Fo EE C5 BO At Fr
noncomputable def Xt:Code:=Tryz.f15.body.getD .skip
noncomputable def NS:=ν [.code Xt]
noncomputable def yo:=AI NS
theorem qP (nm:List UInt8) (m off c:Nat) (xs:List EI) (w:World) (hA:DH CN w 21 (some ⟨m,off,none⟩) (xs.map (·.2))) (hx:∀ x∈xs,Iv x x.2) (hl:xs.length≤1000) :
  Calls Tryz.prog 15 ([ψ [η nm,τ (some ⟨m,off,none⟩) xs.length c]]:List Value).toArray w fun e w'=>∃ f d,e=.returned (ψ [η nm,τ f xs.length d])∧Below (ε w) w w'∧Aj (ε w) w' [Fa f d xs]:=by
 refine AS (fn:=Tryz.f15) (c:=Xt) (n:=10) ?_
 refine Ah NS [ι (ε w) [η nm,τ (some ⟨m,off,none⟩) xs.length c] 27,ι (ε w + 1) [η [],τ none 0 0] 27] (Wk.start w) [] fun w1 K1=>?_
 refine AU [(1,ζ (ε w)),(2,ζ (ε w + 1))] fun E1=>?_
 refine ER (AR NS) ([0,1,2,3,4,5].length + 2) ?_
 have t:∀ r∈xs.map (·.2),r.length=21:=fun r hr=>by obtain ⟨x,q,rfl⟩:=List.mem_map.1 hr; exact (hx x q).2.1
 refine MB (C:=fun a vals u=>a.size=8∧((a.getD 2 false=false∧a.getD 5 false=false∧Wk w u [ι (ε w) [η nm,τ (some ⟨m,off,none⟩) xs.length c] 27,ι (ε w + 1) [η [],τ none 0 0] 27] [] [])∨(a.getD 2 false=true∧a.getD 5 false=false∧∃ g,vals 2=χ g 0 0∧Wk w u [ι (ε w) [η nm,τ (some ⟨m,off,none⟩) xs.length c] 27,ι (ε w + 1) [η [],τ none 0 0] 27] [Fa (θ g) 0 []] [])∨(a.getD 5 false=true∧a.getD 2 false=true∧∃ f d,vals 5=τ f xs.length d∧Wk w u [ι (ε w) [η nm,τ (some ⟨m,off,none⟩) xs.length c] 27,ι (ε w + 1) [η [],τ none 0 0] 27] [Fa f d xs] []))) (Ext:=fun _ _=>True) [0,1,2,3,4,5] [ι (ε w) [η nm,τ (some ⟨m,off,none⟩) xs.length c] 27,ι (ε w + 1) [η [],τ none 0 0] 27] [(1,0,0),(4,0,1)] [2,5] (fun _=>[]) (fun _ _ _=>True) 2 ⟨by kernel_rfl,.inl ⟨by kernel_rfl,by kernel_rfl,K1.below (Below.refl _ _).drew⟩⟩ (fun a vals u hu=>?_) (fun _=>trivial) (fun _ _ _ _ _=>trivial) (fun _ _ _ _ _ h=>h) (fun j _ y a vals v u hu=>?_) (fun j y X a u l b0 hC hf=>?_) (by kernel_rfl) (by intro _; kernel_rfl) (by intro _ _; kernel_rfl) (by intro _; kernel_rfl) fun X u hC _ hf=>?_
 ·rcases hu.2 with ⟨_,_,h⟩ | ⟨_,_,_,_,h⟩ | ⟨_,_,_,_,_,h⟩ <;> exact h.G
 ·obtain ⟨hs,h⟩:=hu
  have h2:j≠2:=fun e=>by subst e; cases y
  have o:j≠5:=fun e=>by subst e; cases y
  refine ⟨by rw [Array.size_setIfInBounds]; exact hs,?_⟩
  have u2:Dw vals j v 2=vals 2:=if_neg (Ne.symm h2)
  have u5:Dw vals j v 5=vals 5:=if_neg (Ne.symm o)
  by_cases hb:j < a.size
  ·rw [Gu hb,Gu hb,decide_eq_false h2,decide_eq_false o,Bool.false_or,Bool.false_or,u2,u5]
   exact h
  rw [show a.setIfInBounds j true=a by rw [Array.setIfInBounds,dif_neg hb],u2,u5]
  exact h
 ·obtain ⟨hs,h⟩:=hC
  simp only [List.mem_cons,List.not_mem_nil,or_false] at y
  rcases y with rfl | rfl
  ·have p:Wk w u [ι (ε w) [η nm,τ (some ⟨m,off,none⟩) xs.length c] 27,ι (ε w + 1) [η [],τ none 0 0] 27] [] []∧a.getD 5 false=false:=by
    rcases h with ⟨_,o,h⟩ | ⟨h2,_⟩ | ⟨o,h2,_⟩
    ·exact ⟨h,o⟩
    ·rw [OT h2] at l; cases l
    rw [OT h2] at l; cases l
   refine Gl (fun z=>χ z 0 0) [] 59 (fun w' hB hg=>⟨⟨by rw [Array.size_setIfInBounds]; exact hs,.inr (.inl ⟨?_,?_,ε u,if_pos rfl,?_⟩)⟩,trivial,trivial⟩) (by intro z; kernel_rfl)
   ·rw [Gu (by rw [hs]; decide)]; rfl
   ·rw [Gu (by rw [hs]; decide),p.2]; rfl
   have a0:w'.heap[ε u]?=some (.cells #[] 59 (0,0)):=by
    have:=hg.2
    rw [if_pos rfl] at this
    exact this.1
   exact p.1.freshT (p.1.below hB) (Fa (some ⟨ε u,0,none⟩) 0 []) ⟨[],trivial,rfl,.inr ⟨ε u,0,#[],rfl,Nat.zero_le _,a0,Nat.le_refl _,Nat.zero_le _,rfl,rfl⟩⟩ (fun k hk=>by
    obtain rfl:(ε u)=k:=by have:=Option.some.inj (show some (⟨ε u,0,none⟩:Addr)=θ k from hk); injection this
    exact ⟨Nat.le_refl _,hg.1⟩)
  have b2:=b0 2 (by kernel_rfl)
  obtain ⟨g,e1,p⟩:∃ g,X 2=χ g 0 0∧Wk w u [ι (ε w) [η nm,τ (some ⟨m,off,none⟩) xs.length c] 27,ι (ε w + 1) [η [],τ none 0 0] 27] [Fa (θ g) 0 []] []:=by
   rcases h with ⟨h2,_⟩ | ⟨_,_,h⟩ | ⟨o,_⟩
   ·rw [h2] at b2; cases b2
   ·exact h
   rw [OT o] at l; cases l
  refine AN.over [(5,χ g 0 0)] ⟨Eq.trans (b:=X 2) (by kernel_rfl) e1,trivial⟩ ?_
  obtain ⟨f,d,w6,s,Hn,b6⟩:=Og (P:=Tryz.prog) (ρ:=Q6 [(5,χ g 0 0)] (A8 10 (Ee Tryz.prog 10 (AR NS) [ι (ε w) [η nm,τ (some ⟨m,off,none⟩) xs.length c] 27,ι (ε w + 1) [η [],τ none 0 0] 27] [(1,0,0),(4,0,1)] (Dx [2,5] X) [0,1,2,3,4,5] (BE E1 [(1,ζ (ε w)),(2,ζ (ε w + 1))]) 5))) p.H (p.ix 0) (p.at 0 rfl) xs (xs.map (·.2)) (Y4 hx) ⟨m,off,none⟩ c (Jv (hA.below p.B) t) ((AR NS).getD 5 default) (.tmp 5) (.tmp 7) 25 (by kernel_rfl) (by kernel_rfl) (by kernel_rfl) (by decide) (by kernel_rfl) (by kernel_rfl) t (fun r hr=>by obtain ⟨x,q,rfl⟩:=List.mem_map.1 hr; exact (hx x q).2.2) (by simp; omega)
  rw [List.nil_append] at s Hn
  refine AN.value s ⟨⟨by rw [Array.size_setIfInBounds]; exact hs,.inr (.inr ⟨?_,?_,f,d,if_pos rfl,p.put 0 (by simp) b6 Hn⟩)⟩,trivial,trivial⟩
  ·rw [Gu (by rw [hs]; decide)]; rfl
  rw [Gu (by rw [hs]; decide),b2]; rfl
 obtain ⟨f,d,e1,K6⟩:∃ f d,X 5=τ f xs.length d∧Wk w u [ι (ε w) [η nm,τ (some ⟨m,off,none⟩) xs.length c] 27,ι (ε w + 1) [η [],τ none 0 0] 27] [Fa f d xs] []:=by
  have o:(List.foldl (fun b i=>Array.setIfInBounds b i true) (Array.replicate ([0,1,2,3,4,5].length + 2) false) [0,1,2,3,4,5]).getD 5 false=true:=by kernel_rfl
  rcases hC.2 with ⟨_,h,_⟩ | ⟨_,h,_⟩ | ⟨_,_,h⟩
  ·exact absurd h (by rw [o]; decide)
  ·exact absurd h (by rw [o]; decide)
  exact h
 refine Bs [(2,ζ (ε w + 1)),(4,η nm),(8,X 5)] fun E2=>?_
 rw [e1]
 refine Do K6 [(6,0,0),(7,1,0)] (fun _=>[ι (ε w) [η nm,τ (some ⟨m,off,none⟩) xs.length c] 27,ι (ε w + 1) [η nm,τ f xs.length d] 27]) fun z w7 K7=>?_
 refine AB yo K7 [] fun w8 K8=>?_
 exact AK K8 (1,0) (ψ [η nm,τ f xs.length d]) ⟨f,d,rfl,K8.B,K8.H.pick [2] rfl (by decide)⟩
noncomputable def aF:Code:=Tryz.f4.body.getD .skip
def tC:=ν [.code aF]
def tB:=Ω tC
def OJ:=Ω tB
def s9:=Al 4 (AM OJ)
def dD:=AI s9
def s8:=Al 5 (AD dD)
def ADa:=AI s8
def s7:=Ψ dD
def Qh:=Ω s7
def LG:=AI Qh
def yp:=AI LG
def mE:Array Oper:=AR OJ
def ABt:Wr:=[(14,0),(15,1),(16,2),(17,3),(18,4),(19,5),(20,6),(21,7)]
theorem wX {R:Ending→World→Prop} {b:Nat} {ns:List Int} {a w0 w5:World} {A:Option Addr} {c:Nat} {ds:List Df} {E:Nat→Value} (l:(ε w0)=b) (k:JE b a A c ds) (K5:Wk w0 w5 [ι (ε a) [η Af,τ A ds.length c] 27] [BF w0 b ns,Bh b a] []) (hw:Below (ε w0) w0 a)
  (H:∀ (ins:List Dl) (pa:List Dk) (nm:List UInt8) (p:Option Addr) (o:Nat) (j:List LU) (E:Nat→Value) (w6:World),j.map (·.1)=(CX Af ds 20464 3 ins pa nm).1→Wk w0 w6 [ι (ε a) [η Af,τ A ds.length c] 27] [BF w0 b ns,Bh b a,FZ p o j,Th.all (j.map Ge)] []→At Tryz.prog 4 R (AM OJ) (Fr 76 (BE E [(3,ζ b),(4,ζ (ε a)),(5,δ 20464),(6,τ p j.length o),(7,δ (CX Af ds 20464 3 ins pa nm).2)])) w6) :
  At Tryz.prog 4 R OJ (Fr 76 (BE E [(3,ζ b),(4,ζ (ε a)),(5,δ 20464)])) w5:=by
 refine ER mE 14 ?_
 refine D8 (md:=.any) (fuel:=6) (L:=[Bd 0 [] (ψ [η Af,τ A ds.length c]),Bd 1 [] (δ 20464),Bd 2 [] (ζ b),⟨3,[2],[3],(fun g u=>∃ (A:Option Addr) (c:Nat) (ins:List Dl),g=[τ A ins.length c]∧ins.length≤4∧(∀ x∈ins,x.1.length≤2)∧Aj (b + 1) u [LF A c ins])⟩,Bd 4 [] (ζ b),⟨5,[4],[5],(fun g u=>∃ (A:Option Addr) (c:Nat) (pa:List Dk) (L':List Th),g=[τ A pa.length c]∧pa.length≤2∧(∀ x∈pa,x.2.length≤4)∧Aj (b + 1) u L'∧∀ u,Aj (b + 1) u L'→EW u A pa)⟩,Bd 6 [] (ζ b),⟨7,[6],[7],(fun g _=>∃ s:List UInt8,g=[η s]∧s.length≤2)⟩]) (W:=ABt) (C:=fun u=>Wk w0 u [ι (ε a) [η Af,τ A ds.length c] 27] [BF w0 b ns,Bh b a] []) (Ext:=fun u u'=>CG b u u') (K5.below (Below.refl _ _).drew) (fun u=>CG.refl b u) (fun _ _ _ y h2=>y.trans h2) ⟨?_,?_,?_,?_,?_,?_,?_,?_,trivial⟩ rfl ?_
 ·exact ⟨fun _ _ _ _ _ h=>h,fun vals u hu hb=>AN.knownE [] trivial (AN.reads ⟨0,[ι (ε a) [η Af,τ A ds.length c] 27],(0,0),[]⟩ (fun e he=>by rw [List.mem_singleton.1 he]; exact hu.ent 0 rfl) (ψ [η Af,τ A ds.length c]) ⟨hu,CG.refl b u,rfl⟩)⟩
 ·exact ⟨fun _ _ _ _ _ h=>h,fun vals u hu hb=>AN.knownE [] trivial (AN.reads ⟨0,[],(0,0),[]⟩ (fun e he=>by cases he) (δ 20464) ⟨hu,CG.refl b u,rfl⟩)⟩
 ·exact ⟨fun _ _ _ _ _ h=>h,fun vals u hu hb=>AN.knownE [] trivial (AN.reads ⟨0,[],(0,0),[]⟩ (fun e he=>by cases he) (ζ b) ⟨hu,CG.refl b u,rfl⟩)⟩
 ·refine ⟨fun g u u' _ he h=>?_,fun vals u hu hb=>?_⟩
  ·obtain ⟨n,m,ins,y,h2,h3,h4⟩:=h
   exact ⟨n,m,ins,y,h2,h3,h4.but (Nat.lt_succ_self b) he⟩
  obtain ⟨h2,_⟩:=hb
  refine AN.knownE [(16,2,ζ b)] ⟨(List.cons.inj h2).1,trivial⟩ (AN.call (f:=8) [.tmp 16] (ats:=#[23]) rfl (CV _ u) ((gK b ns u (hu.tapeOk l 0 rfl)).mono fun e w' v=>?_))
  obtain ⟨n,m,ins,rfl,t,q2,q3,q,d⟩:=v
  exact ⟨_,rfl,hu.tick l 0 rfl q d,d,n,m,ins,rfl,t,q2,q3⟩
 ·exact ⟨fun _ _ _ _ _ h=>h,fun vals u hu hb=>AN.knownE [] trivial (AN.reads ⟨0,[],(0,0),[]⟩ (fun e he=>by cases he) (ζ b) ⟨hu,CG.refl b u,rfl⟩)⟩
 ·refine ⟨fun g u u' _ he h=>?_,fun vals u hu hb=>?_⟩
  ·obtain ⟨n,m,pa,L',y,h2,h3,h4,h5⟩:=h
   exact ⟨n,m,pa,L',y,h2,h3,h4.but (Nat.lt_succ_self b) he,h5⟩
  obtain ⟨h2,_⟩:=hb
  refine AN.knownE [(18,4,ζ b)] ⟨(List.cons.inj h2).1,trivial⟩ (AN.call (f:=9) [.tmp 18] (ats:=#[23]) rfl (CV _ u) ((pq b ns u (hu.tapeOk l 0 rfl)).mono fun e w' v=>?_))
  obtain ⟨n,m,pa,L',rfl,t,q2,q3,q6,q,d⟩:=v
  exact ⟨_,rfl,hu.tick l 0 rfl q d,d,n,m,pa,L',rfl,t,q2,q3,q6⟩
 ·exact ⟨fun _ _ _ _ _ h=>h,fun vals u hu hb=>AN.knownE [] trivial (AN.reads ⟨0,[],(0,0),[]⟩ (fun e he=>by cases he) (ζ b) ⟨hu,CG.refl b u,rfl⟩)⟩
 ·refine ⟨fun _ _ _ _ _ h=>h,fun vals u hu hb=>?_⟩
  obtain ⟨h2,_⟩:=hb
  refine AN.knownE [(20,6,ζ b)] ⟨(List.cons.inj h2).1,trivial⟩ (AN.call (f:=10) [.tmp 20] (ats:=#[23]) rfl (CV _ u) ((px b ns u (hu.tapeOk l 0 rfl)).mono fun e w' v=>?_))
  obtain ⟨s,t,rfl,q,d⟩:=v
  exact ⟨_,rfl,hu.tick l 0 rfl q d,d,s,rfl,t⟩
 intro vals z K8 _ w
 obtain ⟨x0,x1,_,⟨iA,ic,ins,x3,i1,i2,i3⟩,_,⟨pA,pc,pa,L',x5,p1,p2,p3,p4⟩,_,⟨nm,x7,n1⟩,_⟩:=w
 have hr:=k.rows z (K8.out l hw).2
 refine Bs [(3,ζ b),(4,ζ (ε a)),(5,δ 20464),(14,vals 0),(15,vals 1),(17,vals 3),(19,vals 5),(21,vals 7)] fun E9=>?_
 rw [show vals 0=ψ [η Af,τ A ds.length c] from (List.cons.inj x0).1,show vals 1=δ 20464 from (List.cons.inj x1).1,show vals 3=τ iA ins.length ic from (List.cons.inj x3).1,show vals 5=τ pA pa.length pc from (List.cons.inj x5).1,show vals 7=η nm from (List.cons.inj x7).1]
 refine YB (i:=8) (fuel:=5) (mE.getD 8 default) 7 [.tmp 14,.tmp 15,.tmp 17,.tmp 19,.tmp 21] [ψ [η Af,τ A ds.length c],δ 20464,τ iA ins.length ic,τ pA pa.length pc,η nm] (by kernel_rfl) (by kernel_rfl) (by kernel_rfl) (ats:=#[27,3,33,35,9]) (by kernel_rfl) (by kernel_rfl) (by kernel_rfl) ((Lk Af A ds c 20464 3 iA ins ic pA pa pc nm z hr (Nat.le_trans k.len (by decide)) k.cap (by decide) k.lim k.ex k.nE k.ev (i3.rowsF (fun _=>rfl) 0 rfl) (by omega) (fun e he=>Nat.le_trans (i2 e he) (by decide)) (p4 z p3) (by omega) (fun e he=>Nat.le_trans (p2 e he) (by decide)) (by omega)).mono fun en w9 hh=>?_)
 obtain ⟨p,o,j,rfl,a0,b9,H9⟩:=hh
 have K9:=K8.join b9 H9
 refine ⟨_,rfl,SW (r:=0) (mem:=[]) K9 (Below.refl _ _) [9,10,11,12,13] [] [] (fun e he=>by cases he) (fun sp hs=>by cases hs) (by kernel_rfl) (by kernel_rfl) (fun X=>by kernel_rfl) fun u2 b0=>FN ⟨rfl,At.mid ?_⟩⟩
 refine AU [(3,ζ b),(4,ζ (ε a)),(5,δ 20464),(6,τ p j.length o),(7,δ (CX Af ds 20464 3 ins pa nm).2)] fun c0=>?_
 exact H ins pa nm p o j c0 u2 a0 b0
theorem Aj.rowAtG {α:Type} {b:Nat} {w:World} {L:List Th} {T:TypeId} {n:Nat} {f:α→List Value} {A:Option Addr} {c:Nat} {l:List α} (hn:∀ e,(f e).length=n) (H:Aj b w L) (i:Nat) (hi:L[i]?=some (Th.row T n (fun e r=>r=f e) A c l)) (a:0 < l.length):∃ g,A=θ g∧g < (ε w)∧∀ (j:Nat) e,l[j]?=some e→w.rangeAt g (0 + j * n) (f e):=by
 obtain ⟨g,rfl,hg⟩:=H.rowAt i hi a
 obtain ⟨k,off,d,h2,h⟩:=(H.rowsF hn i hi).all a
 simp only [Option.some.injEq,Addr.mk.injEq,and_true] at d
 obtain ⟨rfl,rfl⟩:=d
 exact ⟨g,rfl,hg,h⟩
theorem AEf {R:Ending→World→Prop} {b:Nat} {ns:List Int} {f w0 a:World} {A A2:Option Addr} {c c2 l:Nat} {ds:List Df} {xs:List EI} {t:Option Addr} {s:Nat} {h:List LU} {E:Nat→Value} (h0:(ε w0)=b) (hl:xs.length≤30) (K:Wk w0 a [ι (ε f) [η Af,τ A ds.length c] 27,ι l [η Af,τ A2 xs.length c2] 27] [BF w0 b ns,Bh b f,FZ t s h,Th.all (h.map Ge),Fa A2 c2 xs] [])
  (hk:∀ A' c' (es:List EI) (lo hi:Nat) (x y:Ex) (E:Nat→Value) w',es.map (·.1)=[BW x,Bb y]→CT 5 3 BC x→CT 1 2 BU y→b < lo→Wk w0 w' [ι (ε f) [η Af,τ A ds.length c] 27,ι l [η Af,τ A' (xs++es).length c'] 27] ([BF w0 b ns,Bh b f,FZ t s h,Th.all (h.map Ge),Fa A' c' (xs++es)]++[GE (fun k=>lo≤k∧k < hi) es]) []→At Tryz.prog 4 R (AM Qh) (Fr 76 (BE E [(3,ζ b),(4,ζ (ε f)),(5,δ 20464),(6,τ t h.length s),(8,ζ l)])) w'):At Tryz.prog 4 R Qh (Fr 76 (BE E [(3,ζ b),(4,ζ (ε f)),(5,δ 20464),(6,τ t h.length s),(8,ζ l)])) a:=by
 have hb:b < (ε a):=(K.tapeOk h0 0 rfl).lt
 refine Ek K h0 0 rfl [0,1,2,3,4,5,6,7,8,9,10,11,12,13,14,15] [ι (ε f) [η Af,τ A ds.length c] 27,ι l [η Af,τ A2 xs.length c2] 27] [(1,1,1)] [(4,CA (ε a) 5 3 BC),(5,FC (ε a) (fun d=>∃ x,d=BW x∧CT 5 3 BC x)),(13,CA (ε a) 1 2 BU),(14,FC (ε a) (fun d=>∃ y,d=Bb y∧CT 1 2 BU y)),(15,Ft (ε a) 2 (fun q=>∃ x y,q=[BW x,Bb y]∧CT 5 3 BC x∧CT 1 2 BU y))] 3 (fun u hu=>hu.G) (fun p hp=>?_) (fun p hp X u hu o hf=>?_) fun X u hu o hf=>?_
 ·simp only [List.mem_cons,List.not_mem_nil,or_false] at hp
  rcases hp with rfl | rfl | rfl | rfl | rfl
  ·exact CA.but hb
  ·exact FC.but hb
  ·exact CA.but hb
  ·exact FC.but hb
  exact Ft.but (k:=2) (Q:=fun q=>∃ x y,q=[BW x,Bb y]∧CT 5 3 BC x∧CT 1 2 BU y) hb
 ·have hT:=hu.tapeOk h0 0 rfl
  simp only [List.mem_cons,List.not_mem_nil,or_false] at hp
  rcases hp with rfl | rfl | rfl | rfl | rfl
  ·exact Bn (g:=16) (xs:=[.tmp 41,.tmp 42,.const (δ 3),.const (δ 5)]) (args:=[ζ b,ψ (Ax BC),δ ((3:Nat):Int),δ 5]) ((Oa (n:=5) (H:=3) (by decide) (by decide) (by decide:BC∈EG) hT).mono fun e w' hh=>Ds o.size hh) rfl
  ·obtain ⟨x,j,i,e1,g1,t1⟩:CA (ε a) 5 3 BC (X 4) u:=hf 4 (by kernel_rfl) rfl
   exact AN.over [(43,ψ (AX x j i))] ⟨Eq.trans (b:=X 4) (by kernel_rfl) e1,trivial⟩ (AN.reads ⟨0,[],(0,0),[]⟩ (fun e he=>by cases he) (ψ (Bg (BW x) none 0 j i)) ⟨hT,CG.refl b u,BW x,none,0,j,i,rfl,⟨x,rfl,g1⟩,L6 rfl t1⟩)
  ·exact Bn (g:=16) (xs:=[.tmp 49,.tmp 51,.const (δ 2),.const (δ 1)]) (args:=[ζ b,ψ (Ax BU),δ ((2:Nat):Int),δ 1]) ((Oa (n:=1) (H:=2) (by decide) (by decide) (by decide:BU∈EG) hT).mono fun e w' hh=>Ds o.size hh) rfl
  ·obtain ⟨x,j,i,e1,g1,t1⟩:CA (ε a) 1 2 BU (X 13) u:=hf 13 (by kernel_rfl) rfl
   exact AN.over [(52,ψ (AX x j i))] ⟨Eq.trans (b:=X 13) (by kernel_rfl) e1,trivial⟩ (AN.reads ⟨0,[],(0,0),[]⟩ (fun e he=>by cases he) (ψ (Bg (Bb x) none 0 j i)) ⟨hT,CG.refl b u,Bb x,none,0,j,i,rfl,⟨x,rfl,g1⟩,L6 rfl t1⟩)
  obtain ⟨d,j,i,B1,k1,e1,⟨x,rfl,q1⟩,d1⟩:FC (ε a) (fun d=>∃ x,d=BW x∧CT 5 3 BC x) (X 5) u:=hf 5 (by kernel_rfl) rfl
  obtain ⟨d',c0,a0,b0,v,e0,⟨y,rfl,q2⟩,g0⟩:FC (ε a) (fun d=>∃ y,d=Bb y∧CT 1 2 BU y) (X 14) u:=hf 14 (by kernel_rfl) rfl
  exact AN.over [(44,ψ (Bg (BW x) j i B1 k1)),(53,ψ (Bg (Bb y) c0 a0 b0 v))] ⟨Eq.trans (b:=X 5) (by kernel_rfl) e1,Eq.trans (b:=X 14) (by kernel_rfl) e0,trivial⟩ (Gl (fun z=>χ z 2 2) (Bg (BW x) j i B1 k1++Bg (Bb y) c0 a0 b0 v) 59 (fun w' hB hg=>⟨hT.below hB,.of_below hB,[(_,Bg (BW x) j i B1 k1),(_,Bg (Bb y) c0 a0 b0 v)],ε u,rfl,rfl,o.size,by simpa using hg,fun q hq=>by
    rcases List.mem_cons.1 hq with rfl | hq
    ·exact d1.keep hB.size fun g hg hl=>⟨hg,hB.block g hl⟩
    rw [List.mem_singleton.1 hq]
    exact g0.keep hB.size fun g hg hl=>⟨hg,hB.block g hl⟩,x,y,rfl,q1,q2⟩) (by intro z; kernel_rfl))
 obtain ⟨es,g,e1,e2,_,hg,m,x,y,hq,q1,q2⟩:Ft (ε a) 2 (fun q=>∃ x y,q=[BW x,Bb y]∧CT 5 3 BC x∧CT 1 2 BU y) (X 15) u:=hf 15 (by simp) rfl
 refine Bs ([(3,ζ b),(4,ζ (ε f)),(5,δ 20464),(6,τ t h.length s),(8,ζ l)]++[(40,τ A2 xs.length c2),(54,X 15)]) fun E2=>?_
 rw [e1]
 have K2:=K.freshT hu (GE (fun k=>a.heap.size≤k∧k < (ε u)) es) (fun x hx=>(m x hx).keep (Nat.le_refl _) fun g hg hl=>⟨⟨hg,hl⟩,rfl⟩) (fun _ hk=>hk)
 have w:∀ r∈es.map (·.2),r.length=21:=fun r hr=>by
  obtain ⟨z,hz,rfl⟩:=List.mem_map.1 hr
  exact (m z hz).len
 obtain ⟨A',c',w6,d0,Hn,b6⟩:=Og (P:=Tryz.prog) (ρ:=A8 76 (BE E2 ([(3,ζ b),(4,ζ (ε f)),(5,δ 20464),(6,τ t h.length s),(8,ζ l)]++[(40,τ A2 xs.length c2),(54,χ g 2 2)]))) K2.H (K2.ix 4) (K2.at 4 rfl) es (es.map (·.2)) (Y4 fun z hz=>L5 (m z hz)) ⟨g,0,none⟩ 2 (Jv (DJ w hg) w) ((AR Qh).getD 16 default) (.tmp 40) (.tmp 54) 25 (by kernel_rfl) (by kernel_rfl) (by kernel_rfl) (by decide) (by kernel_rfl) (by rw [e2]; kernel_rfl) w (fun r hr=>by obtain ⟨z,hz,rfl⟩:=List.mem_map.1 hr; exact (L5 (m z hz)).2.2) (by omega)
 refine SV 16 d0 ?_
 have K6:Wk w0 w6 [ι (ε f) [η Af,τ A ds.length c] 27,ι l [η Af,τ A2 xs.length c2] 27] ([BF w0 b ns,Bh b f,FZ t s h,Th.all (h.map Ge),Fa A' c' (xs++es)]++[GE (fun k=>a.heap.size≤k∧k < (ε u)) es]) []:=K2.put 4 (by simp) b6 Hn
 refine Do K6 [(17,0,0),(18,1,1)] (fun _=>[ι (ε f) [η Af,τ A ds.length c] 27,ι l [η Af,τ A' (xs++es).length c'] 27]) fun z w7 K7=>?_
 refine AU [(3,ζ b),(4,ζ (ε f)),(5,δ 20464),(6,τ t h.length s),(8,ζ l)] fun E7=>?_
 exact hk A' c' es _ _ x y E7 w7 hq q1 q2 hb K7
theorem AEe {R:Ending→World→Prop} {b:Nat} {ns:List Int} {f w0 w1:World} {A r:Option Addr} {c q s lo hi:Nat} {ds:List Df} {o es:List EI} {x y:Ex} {n:Option Addr} {m:Nat} {d:List LU} {E:Nat→Value} {l:List C4} (h0:(ε w0)=b) (hw:Below (ε w0) w0 f) (hl:d.map (·.1)=l) (hr:d.length≤m) (b0:∀ a,n=some a→a.spot=none) (a0:JH l) (d0:0 < d.length) (K:Wk w0 w1 [ι (ε f) [η Af,τ A ds.length c] 27,ι s [η Af,τ r o.length q] 27] ([BF w0 b ns,Bh b f,FZ n m d,Th.all (d.map Ge),Fa r q o]++[GE (fun k=>lo≤k∧k < hi) es]) [])
  (vb:∀ u,Wk w0 u [ι (ε f) [η Af,τ A ds.length c] 27,ι s [η Af,τ r o.length q] 27] ([BF w0 b ns,Bh b f,FZ n m d,Th.all (d.map Ge),Fa r q o]++[GE (fun k=>lo≤k∧k < hi) es]) []→Calls Tryz.prog 14 ([ψ [η Af,τ r o.length q],δ 20464,τ n d.length m]:List Value).toArray u fun e w'=>e=.returned (ξ true)∧Below (ε u) u w')
  (va:∀ k u,k < d.length→Wk w0 u [ι (ε f) [η Af,τ A ds.length c] 27,ι s [η Af,τ r o.length q] 27] ([BF w0 b ns,Bh b f,FZ n m d,Th.all (d.map Ge),Fa r q o]++[GE (fun k=>lo≤k∧k < hi) es]) []→Calls Tryz.prog 14 ([ψ [η Af,τ A ds.length c],δ 20464,τ n (k + 1) m]:List Value).toArray u fun e w'=>e=.returned (ξ true)∧Below (ε u) u w')
  (hR:∀ w',Wk w0 w' [ι (ε f) [η Af,τ A ds.length c] 27,ι s [η Af,τ r o.length q] 27] ([BF w0 b ns,Bh b f,FZ n m d,Th.all (d.map Ge),Fa r q o]++[GE (fun k=>lo≤k∧k < hi) es]) []→R (.returned (ξ true)) w'):At Tryz.prog 4 R LG (Fr 76 (BE E [(3,ζ b),(4,ζ (ε f)),(5,δ 20464),(6,τ n d.length m),(8,ζ s)])) w1:=by
 have c0:d.length≤1000:=by have:=a0.1; rw [← hl,List.length_map] at this; exact this
 refine ER (AR LG) 20 ?_
 refine MB (C:=fun _ _ u=>Wk w0 u [ι (ε f) [η Af,τ A ds.length c] 27,ι s [η Af,τ r o.length q] 27] ([BF w0 b ns,Bh b f,FZ n m d,Th.all (d.map Ge),Fa r q o]++[GE (fun k=>lo≤k∧k < hi) es]) []∧CG b w1 u) (Ext:=fun _ _=>True) [0,1,2] [ι (ε f) [η Af,τ A ds.length c] 27,ι s [η Af,τ r o.length q] 27] [(0,1,0)] [] (fun _=>[]) (fun _ _ _=>True) 17 ⟨K.below (Below.refl _ _).drew,.of_below (Below.refl _ _).drew⟩ (fun _ _ u hu=>hu.1.G) (fun _=>trivial) (fun _ _ _ _ _=>trivial) (fun _ _ _ _ _ h=>h) (fun _ _ _ _ _ _ _ h=>h) (fun j hj=>by cases hj) (by kernel_rfl) (by intro _; kernel_rfl) (by intro _ _; kernel_rfl) (by intro _; kernel_rfl) fun X u hC _ _=>?_
 obtain ⟨Ku,Bu⟩:=hC
 refine FD 3 14 [.tmp 57,.tmp 58,.tmp 59] [ψ [η Af,τ r o.length q],δ 20464,τ n d.length m] ((vb u Ku).mono fun e w2 hh=>⟨ξ true,hh.1,?_⟩)
 have K2:=Ku.below hh.2
 have B2:=Bu.trans (.of_below hh.2)
 refine Bs ([(3,ζ b),(4,ζ (ε f)),(5,δ 20464),(6,τ n d.length m),(8,ζ s)]++[(60,ξ true)]) fun E2=>?_
 refine Gh (i:=4) (v:=ξ true) ((AR LG).getD 4 default) (fun c a w h=>by cases h.1) ?_
 refine Bs ([(3,ζ b),(4,ζ (ε f)),(5,δ 20464),(6,τ n d.length m),(8,ζ s)]++[(61,ξ true)]) fun E3=>?_
 refine P3 (g:=4) (t:=61) (by kernel_rfl) 15 _ _ _ (by kernel_rfl) (by rw [LC]; rfl) ?_
 refine MB (C:=fun _ _ u=>Wk w0 u [ι (ε f) [η Af,τ A ds.length c] 27,ι s [η Af,τ r o.length q] 27] ([BF w0 b ns,Bh b f,FZ n m d,Th.all (d.map Ge),Fa r q o]++[GE (fun k=>lo≤k∧k < hi) es]) []∧CG b w1 u) (Ext:=fun _ _=>True) (ops:=(KK (AR LG) 4)) [5,6,7,8,9,10,11,12,13] [ι (ε f) [η Af,τ A ds.length c] 27,ι s [η Af,τ r o.length q] 27] [(5,0,0)] [11,12,13] (fun _=>[]) (Lw [(11,Io d.length),(12,fun v _=>∃ k:Nat,k < d.length∧v=δ ((k + 1:Nat):Int)),(13,fun v _=>∃ k:Nat,k < d.length∧v=τ n (k + 1) m)]) 6 ⟨K2,B2⟩ (fun _ _ u hu=>hu.1.G) (fun _=>trivial) (fun _ _ _ _ _=>trivial) (fun j v u u' he h=>Q9 (Ext:=fun _ _=>True) (fun p hp=>?_) j v u u' he h) (fun _ _ _ _ _ _ _ h=>h) (fun j hj X ls u e0 g0 hC hf=>?_) (by kernel_rfl) (by intro _; kernel_rfl) (by intro _ _; kernel_rfl) (by intro _; kernel_rfl) fun X u hC _ hf=>?_
 ·simp only [List.mem_cons,List.not_mem_nil,or_false] at hp
  rcases hp with rfl | rfl | rfl <;> exact fun _ _ _ _ h=>h
 ·simp only [List.mem_cons,List.not_mem_nil,or_false] at hj
  rcases hj with rfl | rfl | rfl
  ·have hT:=hC.1.tapeOk h0 0 rfl
   exact Bn (xs:=[.tmp 65,.tmp 67]) (args:=[ζ b,δ (d.length:Int)]) ((BR b ns d.length u hT (by omega) (by omega)).mono fun e w' ⟨k,q1,q2,q3,q4⟩=>⟨_,q2,⟨hC.1.tick h0 0 rfl q3 q4,hC.2.trans q4⟩,trivial,k,by omega,rfl⟩) rfl
  ·obtain ⟨k,hk,e1⟩:Io d.length (X 11) u:=hf 11 (by kernel_rfl) (by kernel_rfl)
   exact AN.over [(68,δ (k:Int))] ⟨Eq.trans (b:=X 11) (by kernel_rfl) e1,trivial⟩ (AN.reads ⟨0,[],(0,0),[]⟩ (fun e he=>by cases he) (δ (IntKind.i64.wrap (1 + (k:Int)))) ⟨hC,trivial,k,hk,by rw [IntWalk.i64_in _ (by omega),show 1 + (k:Int)=((k + 1:Nat):Int) by omega]⟩)
  obtain ⟨k,hk,e1⟩:∃ k:Nat,k < d.length∧X 12=δ ((k + 1:Nat):Int):=hf 12 (by kernel_rfl) (by kernel_rfl)
  exact AN.over [(69,δ ((k + 1:Nat):Int))] ⟨Eq.trans (b:=X 12) (by kernel_rfl) e1,trivial⟩ (AN.value (Nw (t:=29) (x:=.tmp 64) (h:=.tmp 69) (a:=n) (len:=d.length) (cap:=m) (i:=k + 1) (by kernel_rfl) Tryz.underlying29 (by decide) (by kernel_rfl) (by kernel_rfl) (by omega) b0) ⟨hC,trivial,k,hk,rfl⟩)
 obtain ⟨k,hk,e1⟩:∃ k:Nat,k < d.length∧X 13=τ n (k + 1) m:=hf 13 (by decide) (by decide)
 refine Bs ([(3,ζ b),(4,ζ (ε f)),(5,δ 20464),(6,τ n d.length m),(8,ζ s)]++[(61,ξ true),(62,ψ [η Af,τ A ds.length c]),(63,δ 20464),(70,X 13)]) fun E4=>?_
 rw [e1]
 refine FD 14 14 [.tmp 62,.tmp 63,.tmp 70] [ψ [η Af,τ A ds.length c],δ 20464,τ n (k + 1) m] ((va k u hk hC.1).mono fun e w5 hh=>⟨ξ true,hh.1,?_⟩)
 have K5:=hC.1.below hh.2
 refine Bs ([(3,ζ b),(4,ζ (ε f)),(5,δ 20464),(6,τ n d.length m),(8,ζ s)]++[(61,ξ true),(71,ξ true)]) fun E5=>?_
 refine Gh (i:=15) (v:=ξ true) ((KK (AR LG) 4).getD 15 default) (fun c a w h=>by cases h.1) ?_
 refine Gh (i:=16) (v:=ξ true) ((KK (AR LG) 4).getD 16 default) (fun c a w h=>by cases h.1) ?_
 refine Bs ([(3,ζ b),(4,ζ (ε f)),(5,δ 20464),(6,τ n d.length m),(8,ζ s)]++[(73,ξ true)]) fun E6=>?_
 refine P3 (g:=16) (t:=73) (by kernel_rfl) 3 _ _ _ (by kernel_rfl) (by rw [LC]; rfl) ?_
 refine FD 17 11 [] [] ((Wo w5).mono fun e w6 hh=>⟨ξ true,hh.1,?_⟩)
 have K6:=K5.below hh.2
 refine Do K6 [(18,0,0),(19,0,0)] (fun _=>[ι (ε f) [η Af,τ A ds.length c] 27,ι s [η Af,τ r o.length q] 27]) fun z w7 K7=>?_
 refine AB yp K7 [] fun w8 K8=>?_
 exact AK K8 (0,0) (ξ true) (hR w8 K8)
theorem lv {b:Nat} {ns:List Int} {c w0 u:World} {A e:Option Addr} {d lo hi:Nat} {ds:List Df} {xs es:List EI} {x y:Ex} {M:List A7} {s r:Th} (n:(ε w0)=b) (m:Below (ε w0) w0 c) (o:xs.map (·.1)=ds) (hc:∀ u,CG b c u→(∀ x∈xs,Ej CN u x.1 x.2)∧DH CN u 21 A (xs.map (·.2))) (he:es.map (·.1)=[BW x,Bb y]) (K:Wk w0 u M ([BF w0 b ns,Bh b c,s,r,Fa e d (xs++es)]++[GE (fun k=>lo≤k∧k < hi) es]) []):rowsDf u e (ds++[BW x,Bb y])∧(xs++es).length≤d:=by
 have ht:(GE (fun k=>lo≤k∧k < hi) es).P u:=K.H.all (K.ix 5) _ (K.at 5 rfl)
 refine ⟨?_,?_⟩
 ·obtain ⟨rs,l,h2⟩:=K.H.rows (fun _ _ h=>h.2.1) (K.ix 4) (K.at 4 rfl)
  have j:=ZM (w:=u) (fun q a=>?_) l
  ·rw [List.map_append,o,he] at j
   exact ⟨rs,j,h2⟩
  rcases List.mem_append.1 a with a | a
  ·exact (hc u (K.out n m).2).1 q a
  exact (ht q a).keep (Nat.le_refl _) fun g _ _=>⟨trivial,rfl⟩
 obtain ⟨rs,l,h2⟩:(Fa e d (xs++es)).P u:=K.H.all (K.ix 4) _ (K.at 4 rfl)
 rcases h2.2 with ⟨i,f⟩ | ⟨g,cap,p,i,_,_,f,_⟩
 ·have:0 < (xs++es).length:=by
   have:=congrArg List.length he
   rw [List.length_map] at this
   rw [List.length_append,this]
   exact Nat.succ_pos _
  omega
 cases i
 exact f
theorem ABJ {ds:List Df} {x y:Ex} (hok:∀ d∈ds,I3 3 false d) (hx:CT 5 3 BC x) (b:CT 1 2 BU y):∀ d∈(ds++[BW x,Bb y]),Fc d∧nE d.body≤1000000∧(Ac d=true→Fy 3 d.body):=fun d hd=>by
 have a:=OX hx
 have h2:=OX b
 rcases List.mem_append.1 hd with hd | hd
 ·have h:=KY (hok d hd)
  exact ⟨h.lim,h.nE,fun hc=>(h.ev hc).1⟩
 rcases List.mem_cons.1 hd with rfl | hd
 ·exact ⟨⟨a.1,by show (3:Nat)≤_; decide⟩,Nat.le_trans a.2.1 (by decide),fun _=>a.2.2⟩
 rw [List.mem_singleton.1 hd]
 exact ⟨⟨h2.1,by show (2:Nat)≤_; decide⟩,Nat.le_trans h2.2.1 (by decide),fun _=>ZJ 2 h2.2.2⟩
theorem YN {R:Ending→World→Prop} {b:Nat} {ns:List Int} {p w0 w6:World} {A:Option Addr} {c:Nat} {ds:List Df} {ins:List Dl} {pa:List Dk} {nm:List UInt8} {rA:Option Addr} {z:Nat} {m:List LU} {E:Nat→Value} (h0:(ε w0)=b) (hw:Below (ε w0) w0 p) (i:JE b p A c ds) (q:m.map (·.1)=(CX Af ds 20464 3 ins pa nm).1)
  (K6:Wk w0 w6 [ι (ε p) [η Af,τ A ds.length c] 27] [BF w0 b ns,Bh b p,FZ rA z m,Th.all (m.map Ge)] []) (hR:∀ w',CG b p w'→R (.returned (ξ true)) w'):At Tryz.prog 4 R (AM OJ) (Fr 76 (BE E [(3,ζ b),(4,ζ (ε p)),(5,δ 20464),(6,τ rA m.length z),(7,δ (CX Af ds 20464 3 ins pa nm).2)])) w6:=by
 refine As 4 s9 K6 [] fun w7 K7=>?_
 refine Av K7 (mem:=[]) [] [] (fun e' i0=>by cases i0) (fun sp d0=>by cases d0) fun w8 E8 K8=>?_
 refine AB dD K8 [] fun w9 K9=>?_
 refine AG (cond (!((CX Af ds 20464 3 ins pa nm).2 == 0)) true ((m.length:Int) == 0)) (fun hc=>?_) (fun hc=>?_)
 ·have s0:(!((CX Af ds 20464 3 ins pa nm).2 == 0))=true:=by
   cases h:(!((CX Af ds 20464 3 ins pa nm).2 == 0))
   ·rw [h] at hc
    have hl:m.length=0:=by simpa using hc
    have h1:=(Pr (bz h)).2.1
    rw [← q] at h1
    exact absurd (by rw [List.eq_nil_of_length_eq_zero hl]; rfl) h1
   rfl
  refine As 5 s8 K9 [] fun c0 w=>?_
  refine Av w (mem:=[]) [] [⟨3,[],ξ true,(!((CX Af ds 20464 3 ins pa nm).2 == 0)) && true⟩] (fun e' i0=>by cases i0) (fun sp d0=>?_) fun v m1 j0=>?_
  ·rw [List.mem_singleton.1 d0]
   exact AY 11 [] [] (fun _=>by kernel_rfl) fun hc y hy=>AQ hy (Wo y)
  refine AB ADa j0 [] fun q0 o=>?_
  exact AK o (0,0) (ξ (cond (!((CX Af ds 20464 3 ins pa nm).2 == 0)) true false)) (by rw [s0]; exact hR _ (o.out h0 hw).2)
 have e0:(CX Af ds 20464 3 ins pa nm).2=0:=by
  cases h:(!((CX Af ds 20464 3 ins pa nm).2 == 0))
  ·exact bz h
  rw [h] at hc; cases hc
 have b0:0 < m.length:=by
  rw [e0] at hc
  have:¬ (m.length:Int)=0:=by
   intro h
   rw [h] at hc
   cases hc
  omega
 have s:JH (CX Af ds 20464 3 ins pa nm).1:=mY (Nat.le_trans i.len (by decide)) i.lim i.nE i.ev e0
 have a0:(CX Af ds 20464 3 ins pa nm).1.length=m.length:=by rw [← q,List.length_map]
 obtain ⟨gs,rfl,d1,hs⟩:=K9.H.rowAtG (f:=Dp) (fun _=>rfl) (K9.ix 2) (K9.at 2 rfl) b0
 have r0:m.length≤z:=by
  obtain ⟨rs,h1,h2⟩:(FZ (θ gs) z m).P w9:=K9.H.all (K9.ix 2) _ (K9.at 2 rfl)
  rcases h2.2 with ⟨h4,_⟩ | ⟨g,cap,g1,h4,_,_,h5,_⟩
  ·cases h4
  cases h4
  exact h5
 obtain ⟨xs,e1,t,k0⟩:=i.cells
 have j:xs.length=ds.length:=by rw [← e1,List.length_map]
 obtain ⟨g0,off,rfl⟩:∃ g0 off,A=some ⟨g0,off,none⟩:=by
  rcases (t p (CG.refl b p)).2 with h | ⟨g,off,h,_⟩
  ·have h2:=congrArg List.length h
   rw [List.length_map,j] at h2
   have:=i.full.ins _ (List.mem_cons_self ..)
   cases hds:ds with
   | nil=>rw [hds] at this; cases this
   | cons d r=>rw [hds] at h2; cases h2
  exact ⟨g,off,h⟩
 refine AB s7 K9 [(0,0)] fun c0 w=>?_
 have m0:=qP Af g0 off c xs c0 (t c0 (w.out h0 hw).2).2 k0 (by rw [j]; exact Nat.le_trans i.len (by decide))
 rw [j] at m0
 refine BA m0 fun e v hh=>?_
 obtain ⟨A2,c2,rfl,t0,z0⟩:=hh
 refine ⟨_,rfl,?_⟩
 have j0:=w.join t0 z0
 refine Ah Qh [ι (ε p) [η Af,τ (some ⟨g0,off,none⟩) ds.length c] 27,ι (ε v) [η Af,τ A2 ds.length c2] 27] j0 [(1,0)] fun q0 o=>?_
 refine AU [(3,ζ b),(4,ζ (ε p)),(5,δ 20464),(6,χ gs m.length z),(8,ζ (ε v))] fun l1=>?_
 rw [← j] at o
 refine AEf h0 (by rw [j]; exact i.len) (by rw [j] at o ⊢; exact o) fun A3 c3 es lo hi x y k1 b1 l0 gx gy c1 x0=>?_
 refine AB LG x0 [] fun a1 v0=>?_
 refine AU [(3,ζ b),(4,ζ (ε p)),(5,δ 20464),(6,χ gs m.length z),(8,ζ (ε v))] fun i1=>?_
 obtain ⟨p1,p2⟩:=Wl i.ok i.full i.len gx gy (ins:=ins) (pa:=pa) (nm:=nm) e0
 have p0:(xs++es).length=(ds++[BW x,Bb y]).length:=by
  have:=congrArg List.length l0
  rw [List.length_map] at this
  rw [List.length_append,List.length_append,j,this]
 have l:=ABJ i.ok gx gy
 have f1:(ds++[BW x,Bb y]).length≤32:=by rw [List.length_append]; have:=i.len; show ds.length + 2≤32; omega
 refine AEe (x:=x) (y:=y) h0 hw q r0 (fun a ha=>by cases ha; rfl) s b0 v0 (fun u n=>?_) (fun k u hk n=>?_) (fun w' K=>hR _ (K.out h0 hw).2)
 ·obtain ⟨r1,r2⟩:=lv h0 hw e1 t l0 n
  have hq:=MI Af A3 (ds++[BW x,Bb y]) c3 20464 3 (θ gs) (CX Af ds 20464 3 ins pa nm).1 z u r1 (by omega) (by rw [← p0]; exact r2) (by decide) (fun d hd=>(l d hd).1) (fun d hd=>(l d hd).1.1) (fun d hd=>(l d hd).2.1) (fun d hd=>(l d hd).2.2) (by rw [← q]; exact n.H.rowsSt (n.ix 2) (n.ix 3) (n.at 2 rfl) (n.at 3 rfl)) s
  rw [p1,a0,← p0] at hq
  exact hq
 have hq:=MI Af (some ⟨g0,off,none⟩) ds c 20464 3 (θ gs) ((CX Af ds 20464 3 ins pa nm).1.take (k + 1)) z u (i.rows u (n.out h0 hw).2) (Nat.le_trans i.len (by decide)) i.cap (by decide) i.lim i.ex i.nE i.ev (by rw [← q]; exact YQ (n.H.rowsSt (n.ix 2) (n.ix 3) (n.at 2 rfl) (n.at 3 rfl)) (k + 1)) (fZ s (k + 1))
 rw [p2 k,List.length_take,a0,Nat.min_eq_left (by omega)] at hq
 exact hq
theorem Hu.more2 {w:World} {b a:Nat} {v:Value} {ns:List Int} (h:Hu w b v ns) (hb:b≤a):Hu w a v ns:=by
 obtain ⟨A,c,rfl,f,h2,d⟩:=h
 exact ⟨A,c,rfl,f,h2,fun hn=>let ⟨g,off,e,hg,hc⟩:=d hn; ⟨g,off,e,by omega,hc⟩⟩
theorem fY (vi:Value) (ns:List Int) (w:World) (hi:Hu w w.heap.size vi ns) :
  Calls Tryz.prog 4 #[vi] w fun e w'=>e=.returned (.bool true)∧Below w.heap.size w w':=by
 obtain ⟨tA,tc,rfl,hi1,hi2,hi3⟩:=id hi
 have hI:Hu w w.heap.size (.slice tA ns.length tc) ns:=hi
 refine AS (fn:=Tryz.f4) (c:=aF) (n:=76) ?_
 refine AB tC (Wk.start w) [] fun w1 K1=>?_
 refine BA (YK _ ns w1 ((hI.keep fun g hg=>K1.B.block g hg).more2 K1.B.size)) fun e w2 hh=>?_
 obtain ⟨rfl,D2,hlt2,b2⟩:=hh
 refine ⟨_,rfl,?_⟩
 have B2:=K1.B.trans (b2.mono K1.B.size)
 have hbs:=K1.B.size
 try dsimp only [ε] at *
 generalize w1.heap.size=b at *
 refine AB tB (Wk.start w2) [] fun w3 K3=>?_
 have D3:=D2.below K3.B
 refine BA (args:=[.pointer (some ⟨b,0,none⟩),δ (3:Nat),.bool false]) (AGL b ns 3 false (by decide) (by decide) _ D3) fun e w4 hh=>?_
 obtain ⟨A,c,ds,rfl,hM,D4,hB4⟩:=hh.made
 refine ⟨_,rfl,?_⟩
 obtain ⟨w0,h0,K4⟩:=Wk.tape D4
 have hw:=K4.B
 refine Ah OJ [⟨w4.heap.size,0,[.string ⟨⟨Af⟩⟩,.slice A ds.length c],27,true⟩] K4 [(0,0)] fun w5 K5=>?_
 refine AU [(3,.pointer (some ⟨b,0,none⟩)),(4,.pointer (some ⟨w4.heap.size,0,none⟩)),(5,δ 20464)] fun E5=>?_
 refine wX h0 hM K5 hw fun ins pa nm rA rc sl E6 w6 hsl K6=>?_
 have B4:Below w.heap.size w w4:=(B2.trans (K3.B.mono B2.size)).trans (hB4.below hbs (Nat.le_trans B2.size K3.B.size))
 exact YN h0 hw hM hsl K6 fun w' hh=>⟨rfl,B4.trans (hh.below hbs B4.size)⟩
end
end Go.Proofs.YtkjbdagicjbjjaaGreat

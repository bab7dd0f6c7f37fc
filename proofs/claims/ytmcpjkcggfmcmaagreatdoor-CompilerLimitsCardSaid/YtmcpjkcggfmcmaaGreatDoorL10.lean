/-
  Part 10 of a proof: contracts of functions.
-/
import Derived.Test.YtmcpjkcggfmcmaaGreatDoorL09
import Derived.Test.YtmcpjkcggfmcmaaGreatDoorL02
import Derived.IntWalk
import Derived.OwnWalk
import Derived.Test.YtmcpjkcggfmcmaaGreatDoorL07
set_option linter.all false
namespace Go.Proofs.YtmcpjkcggfmcmaaGreatDoor
open Go.RowKit
theorem Ja.mono {m n:Nat} {x:Ex} (h:Ja m x) (hl:m≤n):Ja n x:=⟨h.1,Nat.le_trans h.2 hl⟩
def Ge (m:Nat):List Ex→Prop
 | []=>True
 | e :: es=>Ja m e∧Ge m es
theorem Ge.okEs {m:Nat}:∀ {es:List Ex},Ge m es→okEs es∧Ex.heights es≤m
 | [],_=>by unfold Go.Proofs.YtmcpjkcggfmcmaaGreatDoor.okEs Ex.heights; exact ⟨trivial,Nat.zero_le _⟩
 | e :: es,h=>by
  have h2:=Ge.okEs h.2
  unfold Go.Proofs.YtmcpjkcggfmcmaaGreatDoor.okEs Ex.heights
  exact ⟨⟨h.1.1,h2.1⟩,Nat.max_le.2 ⟨h.1.2,h2.2⟩⟩
theorem Ge.snoc {m:Nat}:∀ {es:List Ex} {e:Ex},Ge m es→Ja m e→Ge m (es++[e])
 | [],_,_,h=>⟨h,trivial⟩
 | _ :: _,_,hs,h=>⟨hs.1,Ge.snoc hs.2 h⟩
theorem Bd.snoc {lo:Nat} {w:World} {e:Ex} {c:List Value} (h:Cl lo w e c):∀ {es:List Ex} {ks:List (List Value)},Bd lo w es ks→Bd lo w (es++[e]) (ks++[c])
 | [],ks,hs=>by unfold Bd at hs; subst hs; exact Bd.one h
 | e' :: es,ks,hs=>by
  unfold Bd at hs
  obtain ⟨c',cs,rfl,h1,h2⟩:=hs
  exact Bd.cons h1 (Bd.snoc h h2)
structure Se (b:Nat) (ns:List Int) (t s:Bool×Int×Int×Int) (g m lo:Nat) (w:World) (es:List Ex) (ks:List (List Value)) (wx:World):Prop where
 exs:Bd lo wx es ks
 gen:Ge m es
 len:∀ r∈ks,r.length=10
 st:Ez b ns t w wx
 some:wx.heap[g]?=some (.cells #[.bool s.1,.int .i64 s.2.1,.int .i64 s.2.2.1,.int .i64 s.2.2.2] 26 (0,0))
 lo_le:lo≤wx.heap.size
 lo_b:w.heap.size + 2≤lo
 g_lo:g < lo∧g≠b
theorem Se.step {b:Nat} {ns:List Int} {t s:Bool×Int×Int×Int} {g m lo:Nat} {w wx wy:World} {es:List Ex} {ks:List (List Value)} (h:Se b ns t s g m lo w es ks wx) (hlt:b < w.heap.size) (hT:CI b ns wy) (hb:Ca b wx wy):Se b ns t s g m lo w es ks wy:=
 ⟨Bd.keep (.of_but hb (by have:=h.lo_b; omega)) _ _ h.exs,h.gen,h.len,h.st.next hlt hT hb,(hb.block _ (Cy h.some) h.g_lo.2).trans h.some,Nat.le_trans h.lo_le hb.size,h.lo_b,h.g_lo⟩
theorem Se.below {b:Nat} {ns:List Int} {t s:Bool×Int×Int×Int} {g m lo:Nat} {w wx wy:World} {es:List Ex} {ks:List (List Value)} (h:Se b ns t s g m lo w es ks wx) (hlt:b < w.heap.size) (hb:Below wx.heap.size wx wy):Se b ns t s g m lo w es ks wy:=
 h.step hlt (h.st.tape.below hb) (.of_below hb)
end Go.Proofs.YtmcpjkcggfmcmaaGreatDoor
namespace Go.Proofs.YtmcpjkcggfmcmaaGreatDoor
open Go.RowKit
structure Ph (b:Nat) (ns:List Int) (w:World) (mem:List BM) (wx:World):Prop where
 lies:C8 (mem.map (·.id)) wx.heap.size wx ⟨wx.heap.size,mem,(0,0),[]⟩
 tape:CI b ns wx
 but:Ca b w wx
 lt:b < w.heap.size
 ids:∀ e∈mem,w.heap.size≤e.id
theorem CI.kept {b:Nat} {ns:List Int} {w w':World} {O:List Nat} (h:CI b ns w) (hO:∀ k∈O,b < k) (hk:Dh O w.heap.size w w'):CI b ns w':=by
 have hlt:=h.lt
 obtain ⟨v,k,hk1,hc,hi⟩:=h
 have key:∀ g,g≤b→w'.heap[g]?=w.heap[g]?:=fun g hg=>hk.block g (by omega) (fun hm=>by have:=hO g hm; omega)
 exact ⟨v,k,hk1,(key b (Nat.le_refl _)).trans hc,hi.keep (fun g hg=>key g (by omega))⟩
theorem Ca.kept {b:Nat} {u w w':World} {O:List Nat} (h:Ca b u w) (hO:∀ k∈O,u.heap.size≤k) (hk:Dh O w.heap.size w w'):Ca b u w':=
 ⟨hk.os.trans h.os,hk.tape.trans h.tape,hk.output.trans h.output,Nat.le_trans h.size hk.size,fun k hk1 hb=>(hk.block k (Nat.lt_of_lt_of_le hk1 h.size) (fun hm=>by have:=hO k hm; omega)).trans (h.block k hk1 hb)⟩
theorem J6 {O:List Nat} {B:Nat} {w:World} {z:Nat} {mem:List BM} {x:Nat×Nat} {q:List (Nat×Nat)} (h:C8 O B w ⟨z,mem,x,q⟩):C8 (mem.map (·.id)) w.heap.size w ⟨w.heap.size,mem,(0,0),[]⟩:=
 ah (show C8 O B w ⟨w.heap.size,mem,(0,0),[]⟩ from ⟨⟨rfl,h.sat.good,h.sat.apart⟩,h.le,h.own⟩)
theorem Ph.start {b:Nat} {ns:List Int} {w:World} (h:CI b ns w):Ph b ns w [] w:=
 ⟨Bm w,h,.refl _ _,h.lt,fun e he=>(by cases he)⟩
theorem Ph.run {b:Nat} {ns:List Int} {w wx wy:World} {mem mem':List BM} {z:Nat} {O:List Nat} {B:Nat} {x:Nat×Nat} {q:List (Nat×Nat)} (h:Ph b ns w mem wx) (hk:Dh (mem.map (·.id)) wx.heap.size wx wy) (hL:C8 O B wy ⟨z,mem',x,q⟩) (hi:∀ e∈mem',w.heap.size≤e.id):Ph b ns w mem' wy:=by
 have hO:∀ k∈mem.map (·.id),w.heap.size≤k:=fun k hm=>by
  obtain ⟨e,he,rfl⟩:=List.mem_map.1 hm
  exact h.ids e he
 exact ⟨J6 hL,h.tape.kept (fun k hm=>by have:=hO k hm; have:=h.lt; omega) hk,h.but.kept hO hk,h.lt,hi⟩
theorem Ph.call {b:Nat} {ns:List Int} {w wx wy:World} {mem:List BM} (h:Ph b ns w mem wx) (hT:CI b ns wy) (hb:Ca b wx wy):Ph b ns w mem wy:=
 ⟨J6 (N0 h.lies hb.size (fun e he=>hb.block e.id (h.lies.sat.good e he).1 (fun hx=>by have:=h.ids e he; have:=h.lt; omega))),hT,h.but.trans hb,h.lt,h.ids⟩
theorem Ph.below {b:Nat} {ns:List Int} {w wx wy:World} {mem:List BM} (h:Ph b ns w mem wx) (hb:Below wx.heap.size wx wy):Ph b ns w mem wy:=h.call (h.tape.below hb) (.of_below hb)
theorem Ph.grown {b:Nat} {ns:List Int} {w wx wy:World} {mem:List BM} {row:Option Nat} (h:Ph b ns w mem wx) (hg:wx.grownBy wy row) (hr:∀ g,row=some g→w.heap.size≤g∧∀ e∈mem,e.id≠g):Ph b ns w mem wy:=by
 have hlt:=h.lt
 obtain ⟨v,k,hk1,hc,hi⟩:=h.tape
 have hbl:=Cy hc
 have key:∀ g,g < w.heap.size→g < wx.heap.size→wy.heap[g]?=wx.heap[g]?:=fun g h1 h2=>hg.block g h2 (fun e=>by have:=(hr g e.symm).1; omega)
 refine ⟨J6 (N0 h.lies hg.size (fun e he=>hg.block e.id (h.lies.sat.good e he).1 (fun e'=>(hr e.id e'.symm).2 e he rfl))),⟨v,k,hk1,(key b hlt hbl).trans hc,hi.keep (fun g hgb=>key g (by omega) (by omega))⟩,?_,h.lt,h.ids⟩
 have hs:=h.but.size
 exact ⟨hg.os.trans h.but.os,hg.tape.trans h.but.tape,hg.output.trans h.but.output,Nat.le_trans hs hg.size,fun k hk hb=>(key k hk (by omega)).trans (h.but.block k hk hb)⟩
end Go.Proofs.YtmcpjkcggfmcmaaGreatDoor
namespace Go.Proofs.YtmcpjkcggfmcmaaGreatDoor
open Go.RowKit
structure Df where
 kind:Int
 name:List UInt8
 tb:Bool
 tm:Int
 th:Int
 td:Int
 frm:Int
 ents:List (Int×Int×Int)
 body:Ex
 mode:Int
 num:Int
 den:Int
def Fc (e:Int×Int×Int):List Value:=[.int .i64 e.1,.int .i64 e.2.1,.int .i64 e.2.2]
def Df.head (d:Df) (A:Option Addr) (c:Nat):List Value:=[.int .i64 d.kind,.string ⟨d.name.toArray⟩,.bool d.tb,.int .i64 d.tm,.int .i64 d.th,.int .i64 d.td,.int .i64 d.frm,.slice A d.ents.length c]
def Df.tail (d:Df):List Value:=[.int .i64 d.mode,.int .i64 d.num,.int .i64 d.den]
def JW (lo:Nat) (w:World) (d:Df) (cs:List Value):Prop:=
 ∃ A c bs,Cl lo w d.body bs∧F0 lo w 3 A (d.ents.map Fc)∧cs=d.head A c++bs++d.tail
theorem JW.keep {lo:Nat} {w w':World} {d:Df} {cs:List Value} (h:JW lo w d cs) (hb:ED lo w w'):JW lo w' d cs:=by
 obtain ⟨A,c,bs,h1,h2,h3⟩:=h
 exact ⟨A,c,bs,Cl.keep hb _ _ h1,h2.keep hb,h3⟩
theorem JW.mono {lo lo':Nat} {w:World} {d:Df} {cs:List Value} (h:JW lo w d cs) (hl:lo'≤lo):JW lo' w d cs:=by
 obtain ⟨A,c,bs,h1,h2,h3⟩:=h
 exact ⟨A,c,bs,Cl.mono hl _ _ h1,h2.mono hl,h3⟩
theorem JW.len {lo:Nat} {w:World} {d:Df} {cs:List Value} (h:JW lo w d cs):cs.length=21:=by
 obtain ⟨A,c,bs,h1,_,rfl⟩:=h
 simp [Df.head,Df.tail,Cl.len h1]
def kF:List Value:=[.int .i64 0,.string ⟨#[]⟩,.bool false,.int .i64 0,.int .i64 0,.int .i64 0,.int .i64 0,.slice none 0 0,.int .i64 0,.int .i64 0,.int .i64 0,.int .i64 0,.int .i64 0,.int .i64 0,.string ⟨#[]⟩,.int .i64 0,.int .i64 0,.slice none 0 0,.int .i64 0,.int .i64 0,.int .i64 0]
def fA (nm:List UInt8) (tb:Bool) (tm th td frm:Int) (v:Value):List Value:=[.int .i64 2,.string ⟨nm.toArray⟩,.bool tb,.int .i64 tm,.int .i64 th,.int .i64 td,.int .i64 frm,v,.int .i64 0,.int .i64 0,.int .i64 0,.int .i64 0,.int .i64 0,.int .i64 0,.string ⟨#[]⟩,.int .i64 0,.int .i64 0,.slice none 0 0,.int .i64 0,.int .i64 0,.int .i64 0]
def mZ (w:World) (nm:List UInt8) (tb:Bool) (tm th td frm:Int) (r:List Value) (v:Value):List BM:=[⟨w.heap.size,0,[.bool tb,.int .i64 tm,.int .i64 th,.int .i64 td],26,true⟩,⟨w.heap.size + 1,0,r,34,true⟩,⟨w.heap.size + 2,0,fA nm tb tm th td frm v,34,true⟩]
section
variable {b:Nat} {ns:List Int} {nm:List UInt8} {tb:Bool} {tm th td frm:Int} {w:World}
def Sd (b:Nat) (ns:List Int) (w:World) (nm:List UInt8) (tb:Bool) (tm th td frm:Int) (v:Value) (es:List (Int×Int×Int)) (wx:World):Prop:=
 Ph b ns w (mZ w nm tb tm th td frm kF v) wx∧wx.ownsRow (w.heap.size + 3) 97 3 v es.length (es.flatMap Fc)
theorem Sd.call {v:Value} {es:List (Int×Int×Int)} {wx wy:World} (h:Sd b ns w nm tb tm th td frm v es wx) (hT:CI b ns wy) (hb:Ca b wx wy):Sd b ns w nm tb tm th td frm v es wy:=
 ⟨h.1.call hT hb,IQ h.2 (fun g hg=>by
  have:=h.2.lt g hg
  have:=h.1.lt
  exact hb.block g (by omega) (by omega))⟩
theorem Sd.below {v:Value} {es:List (Int×Int×Int)} {wx wy:World} (h:Sd b ns w nm tb tm th td frm v es wx) (hb:Below wx.heap.size wx wy):Sd b ns w nm tb tm th td frm v es wy:=h.call (h.1.tape.below hb) (.of_below hb)
end
end Go.Proofs.YtmcpjkcggfmcmaaGreatDoor
namespace Go.Proofs.YtmcpjkcggfmcmaaGreatDoor
def CU (S:Nat→Prop) (w:World) (n:Nat) (A:Option Addr) (rs:List (List Value)):Prop:=
 rs=[]∨∃ g off,A=some ⟨g,off,none⟩∧S g∧g < w.heap.size∧∀ (i:Nat) r,rs[i]?=some r→∀ (j:Nat) u,r[j]?=some u→w.cell? ⟨g,off + i * n + j,none⟩=some u
mutual
def De (S:Nat→Prop) (w:World):Ex→List Value→Prop
 | .mk op num den mu hu du name count mode kids,cs=>∃ A c ks,cs=[.int .i64 op,.int .i64 num,.int .i64 den,.int .i64 mu,.int .i64 hu,.int .i64 du,.string ⟨name.toArray⟩,.int .i64 count,.int .i64 mode,.slice A kids.length c]∧
   Dc S w kids ks∧CU S w 10 A ks
def Dc (S:Nat→Prop) (w:World):List Ex→List (List Value)→Prop
 | [],ks=>ks=[]
 | e :: es,ks=>∃ c cs,ks=c :: cs∧De S w e c∧Dc S w es cs
end
theorem CU.of {lo n:Nat} {w:World} {A:Option Addr} {rs:List (List Value)} {S:Nat→Prop} (h:F0 lo w n A rs) (hl:∀ r∈rs,0 < r.length) (hS:∀ g,lo≤g→g < w.heap.size→S g):CU S w n A rs:=by
 rcases h with h | ⟨g,off,rfl,hg,hc⟩
 ·exact .inl h
 ·cases rs with
  | nil=>exact .inl rfl
  | cons r rs=>
   have h0:=hl r (by simp)
   obtain ⟨u,hu⟩:∃ u,r[0]?=some u:=⟨_,List.getElem?_eq_getElem h0⟩
   have hlt:g < w.heap.size:=World.block_lt_of_cell? w _ (hc 0 r (by simp) 0 u hu)
   exact .inr ⟨g,off,rfl,hS g hg hlt,hlt,hc⟩
theorem Bd.len10 {lo:Nat} {w:World}:∀ {es:List Ex} {ks:List (List Value)},Bd lo w es ks→∀ r∈ks,r.length=10
 | [],ks,h,r,hr=>by unfold Bd at h; subst h; cases hr
 | e :: es,ks,h,r,hr=>by
  unfold Bd at h
  obtain ⟨c,cs,rfl,h1,h2⟩:=h
  rcases List.mem_cons.1 hr with rfl | hr2
  ·exact Cl.len h1
  ·exact Bd.len10 h2 r hr2
mutual
theorem De.of {lo:Nat} {w:World} {S:Nat→Prop} (hS:∀ g,lo≤g→g < w.heap.size→S g):∀ (e:Ex) (cs:List Value),Cl lo w e cs→De S w e cs
 | .mk op num den mu hu du name count mode kids,cs,h=>by
  unfold Cl at h
  unfold De
  obtain ⟨A,c,ks,h1,h2,h3⟩:=h
  exact ⟨A,c,ks,h1,Dc.of hS kids ks h2,CU.of h3 (fun r hr=>by rw [Bd.len10 h2 r hr]; decide) hS⟩
theorem Dc.of {lo:Nat} {w:World} {S:Nat→Prop} (hS:∀ g,lo≤g→g < w.heap.size→S g):∀ (es:List Ex) (ks:List (List Value)),Bd lo w es ks→Dc S w es ks
 | [],ks,h=>by unfold Bd at h; unfold Dc; exact h
 | e :: es,ks,h=>by
  unfold Bd at h
  unfold Dc
  obtain ⟨c,cs,h1,h2,h3⟩:=h
  exact ⟨c,cs,h1,De.of hS e c h2,Dc.of hS es cs h3⟩
end
theorem CU.keep {S S':Nat→Prop} {n:Nat} {w w':World} {A:Option Addr} {rs:List (List Value)} (h:CU S w n A rs) (hs:w.heap.size≤w'.heap.size) (hb:∀ g,S g→g < w.heap.size→S' g∧w'.heap[g]?=w.heap[g]?):CU S' w' n A rs:=by
 rcases h with h | ⟨g,off,rfl,hg,hlt,hc⟩
 ·exact .inl h
 ·have:=hb g hg hlt
  refine .inr ⟨g,off,rfl,this.1,by omega,fun i r hi j u hj=>?_⟩
  rw [World.cell?_of_block (w:=w) this.2]
  exact hc i r hi j u hj
mutual
theorem De.keep {S S':Nat→Prop} {w w':World} (hs:w.heap.size≤w'.heap.size) (hb:∀ g,S g→g < w.heap.size→S' g∧w'.heap[g]?=w.heap[g]?):∀ (e:Ex) (cs:List Value),De S w e cs→De S' w' e cs
 | .mk op num den mu hu du name count mode kids,cs,h=>by
  unfold De at h ⊢
  obtain ⟨A,c,ks,h1,h2,h3⟩:=h
  exact ⟨A,c,ks,h1,Dc.keep hs hb kids ks h2,h3.keep hs hb⟩
theorem Dc.keep {S S':Nat→Prop} {w w':World} (hs:w.heap.size≤w'.heap.size) (hb:∀ g,S g→g < w.heap.size→S' g∧w'.heap[g]?=w.heap[g]?):∀ (es:List Ex) (ks:List (List Value)),Dc S w es ks→Dc S' w' es ks
 | [],ks,h=>by unfold Dc at h ⊢; exact h
 | e :: es,ks,h=>by
  unfold Dc at h ⊢
  obtain ⟨c,cs,h1,h2,h3⟩:=h
  exact ⟨c,cs,h1,De.keep hs hb e c h2,Dc.keep hs hb es cs h3⟩
end
theorem De.cells {S:Nat→Prop} {w:World} {x:Ex} {cs:List Value} (h:De S w x cs):∃ (a0 a1 a2 a3 a4 a5:Int) (a6:List UInt8) (a7 a8:Int) (A:Option Addr) (n c:Nat),cs=[.int .i64 a0,.int .i64 a1,.int .i64 a2,.int .i64 a3,.int .i64 a4,.int .i64 a5,.string ⟨a6.toArray⟩,.int .i64 a7,.int .i64 a8,.slice A n c]:=by
 obtain ⟨op,num,den,mu,hu,du,name,count,mode,kids⟩:=x
 unfold De at h
 obtain ⟨A,c,ks,rfl,_⟩:=h
 exact ⟨_,_,_,_,_,_,_,_,_,_,_,_,rfl⟩
def FN (S:Nat→Prop) (w:World) (d:Df) (cs:List Value):Prop:=
 ∃ A c bs,De S w d.body bs∧CU S w 3 A (d.ents.map Fc)∧cs=d.head A c++bs++d.tail
theorem FN.of {lo:Nat} {w:World} {S:Nat→Prop} {d:Df} {cs:List Value} (h:JW lo w d cs) (hS:∀ g,lo≤g→g < w.heap.size→S g):FN S w d cs:=by
 obtain ⟨A,c,bs,h1,h2,h3⟩:=h
 exact ⟨A,c,bs,De.of hS _ _ h1,CU.of h2 (fun r hr=>by obtain ⟨e,_,rfl⟩:=List.mem_map.1 hr; simp [Fc]) hS,h3⟩
theorem FN.keep {S S':Nat→Prop} {w w':World} {d:Df} {cs:List Value} (h:FN S w d cs) (hs:w.heap.size≤w'.heap.size) (hb:∀ g,S g→g < w.heap.size→S' g∧w'.heap[g]?=w.heap[g]?):FN S' w' d cs:=by
 obtain ⟨A,c,bs,h1,h2,h3⟩:=h
 exact ⟨A,c,bs,De.keep hs hb _ _ h1,h2.keep hs hb,h3⟩
theorem FN.len {S:Nat→Prop} {w:World} {d:Df} {cs:List Value} (h:FN S w d cs):cs.length=21:=by
 obtain ⟨A,c,bs,h1,_,rfl⟩:=h
 obtain ⟨_,_,_,_,_,_,_,_,_,_,_,_,rfl⟩:=h1.cells
 simp [Df.head,Df.tail]
theorem FN.cells {S:Nat→Prop} {w:World} {d:Df} {cs:List Value} (h:FN S w d cs):∃ (A:Option Addr) (c:Nat) (a0 a1 a2 a3 a4 a5:Int) (a6:List UInt8) (a7 a8:Int) (B:Option Addr) (kn kc:Nat),cs=[.int .i64 d.kind,.string ⟨d.name.toArray⟩,.bool d.tb,.int .i64 d.tm,.int .i64 d.th,.int .i64 d.td,.int .i64 d.frm,.slice A d.ents.length c,.int .i64 a0,.int .i64 a1,.int .i64 a2,.int .i64 a3,.int .i64 a4,.int .i64 a5,.string ⟨a6.toArray⟩,.int .i64 a7,.int .i64 a8,.slice B kn kc,.int .i64 d.mode,.int .i64 d.num,.int .i64 d.den]:=by
 obtain ⟨A,c,bs,h1,_,rfl⟩:=h
 obtain ⟨_,_,_,_,_,_,_,_,_,_,_,_,rfl⟩:=h1.cells
 exact ⟨_,_,_,_,_,_,_,_,_,_,_,_,_,_,rfl⟩
def Gb (Pd:Df→Prop) (S:Nat→Prop) (w:World) (rs:List (List Value)):Prop:=∀ r∈rs,∃ d,Pd d∧FN S w d r
theorem Gb.keep {Pd:Df→Prop} {S S':Nat→Prop} {w w':World} {rs:List (List Value)} (h:Gb Pd S w rs) (hs:w.heap.size≤w'.heap.size) (hb:∀ g,S g→g < w.heap.size→S' g∧w'.heap[g]?=w.heap[g]?):Gb Pd S' w' rs:=fun r hr=>by
 obtain ⟨d,h1,h2⟩:=h r hr
 exact ⟨d,h1,h2.keep hs hb⟩
theorem Gb.append {Pd:Df→Prop} {S:Nat→Prop} {w:World} {rs qs:List (List Value)} (h:Gb Pd S w rs) (k:Gb Pd S w qs):Gb Pd S w (rs++qs):=fun r hr=>by
 rcases List.mem_append.1 hr with hr | hr
 ·exact h r hr
 ·exact k r hr
theorem Gb.len {Pd:Df→Prop} {S:Nat→Prop} {w:World} {rs:List (List Value)} (h:Gb Pd S w rs):∀ r∈rs,r.length=21:=fun r hr=>by
 obtain ⟨d,_,h2⟩:=h r hr
 exact h2.len
end Go.Proofs.YtmcpjkcggfmcmaaGreatDoor
namespace Go.Proofs.YtmcpjkcggfmcmaaGreatDoor
noncomputable section
open Go.RowKit
set_option maxRecDepth 100000
mutual
def EY:Ex→Int→Bool
 | .mk op num den mu hu du name count mode kids,h=>cond (cond (cond (decide (h < 1)) true (!((kids.length:Int) == CP op))) true (!(CW op num den mu hu du name count mode))) false (EF kids (h - 1))
def EF:List Ex→Int→Bool
 | [],_=>true
 | e :: es,h=>cond (!(EY e h)) false (EF es h)
end
mutual
def DT:Ex→Prop
 | .mk _ _ _ _ _ _ name _ _ kids=>name.length≤4294967296∧kids.length≤4294967296∧GZ kids
def GZ:List Ex→Prop
 | []=>True
 | e :: es=>DT e∧GZ es
end
theorem Hg:∀ {es:List Ex} {i:Nat} {e:Ex},GZ es→es[i]?=some e→DT e
 | [],_,_,_,h=>by simp at h
 | x :: es,0,e,h,hi=>by unfold GZ at h; simp at hi; exact hi ▸ h.1
 | x :: es,i + 1,e,h,hi=>by unfold GZ at h; exact Hg h.2 (by simpa using hi)
theorem JT {S:Nat→Prop} {w:World}:∀ {es:List Ex} {ks:List (List Value)} {i:Nat} {e:Ex},Dc S w es ks→es[i]?=some e→∃ r,ks[i]?=some r∧De S w e r
 | [],_,_,_,_,h=>by simp at h
 | x :: es,ks,i,e,h,hi=>by
  unfold Dc at h
  obtain ⟨c,cs,rfl,h1,h2⟩:=h
  cases i with
  | zero=>simp at hi; subst hi; exact ⟨c,by simp,h1⟩
  | succ i=>obtain ⟨r,hr,hx⟩:=JT (i:=i) h2 (by simpa using hi); exact ⟨r,by simpa using hr,hx⟩
theorem Gy:∀ {es:List Ex} {i:Nat} {e:Ex},es[i]?=some e→Ex.height e≤Ex.heights es
 | [],_,_,h=>by simp at h
 | x :: es,0,e,h=>by unfold Ex.heights; simp at h; subst h; omega
 | x :: es,i + 1,e,h=>by unfold Ex.heights; have:=Gy (es:=es) (i:=i) (e:=e) (by simpa using h); omega
abbrev CG:Nat→Prop:=fun _=>True
theorem De.below {w w':World} {e:Ex} {cs:List Value} (h:De CG w e cs) (B:Below w.heap.size w w'):De CG w' e cs:=De.keep B.size (fun g _ hg=>⟨trivial,B.block g hg⟩) e cs h
theorem Dc.below {w w':World} {es:List Ex} {ks:List (List Value)} (h:Dc CG w es ks) (B:Below w.heap.size w w'):Dc CG w' es ks:=Dc.keep B.size (fun g _ hg=>⟨trivial,B.block g hg⟩) es ks h
theorem CU.below {w w':World} {n:Nat} {A:Option Addr} {rs:List (List Value)} (h:CU CG w n A rs) (B:Below w.heap.size w w'):CU CG w' n A rs:=CU.keep h B.size fun g _ hg=>⟨trivial,B.block g hg⟩
abbrev LI (op num den mu hu du:Int) (nm:List UInt8) (cnt md:Int) (A:Option Addr) (n c:Nat):List Value:=[.int .i64 op,.int .i64 num,.int .i64 den,.int .i64 mu,.int .i64 hu,.int .i64 du,.string ⟨⟨nm⟩⟩,.int .i64 cnt,.int .i64 md,.slice A n c]
noncomputable def M3:Code:=Tryz.f124.body.getD .skip
def Sx:List Item:=Ac 1 [.code M3]
def Y3:List Item:=AB 60 (AO Sx)
def Sw:List Item:=AB 60 (AL Y3)
def PL:List Item:=AB 60 (A4 Sw)
def Y2:List Item:=AB (As Ae 90 (AG PL)) (AG PL)
def Y1:List Item:=AB 60 (AF (AF Y2))
def fp:List Item:=AB 60 (AF Y1)
def Nk (n:Nat):Prop:=∀ (e:Ex) (cs:List Value) (h:Int) (w:World),e.height≤n→DT e→De CG w e cs→-1000000≤h→h≤1000000→Calls Tryz.prog 124 ([.agg ⟨cs⟩,.int .i64 h]:List Value).toArray w fun en w'=>en=.returned (.bool (EY e h))∧Below w.heap.size w w'
theorem Vw {kids:List Ex} {h:Int}:∀ (i:Nat) (e:Ex),kids[i]?=some e→EF (kids.drop i) h=cond (!(EY e h)) false (EF (kids.drop (i + 1)) h):=fun i e hi=>by
 have hl:i < kids.length:=(List.getElem?_eq_some_iff.1 hi).1
 have he:kids[i]=e:=(List.getElem?_eq_some_iff.1 hi).2
 rw [← List.getElem_cons_drop hl,EF,he]
theorem Yq (n:Nat) (IH:Nk n):Nk (n + 1):=by
 rintro ⟨op,num,den,mu,hu,du,nm,cnt,md,kids⟩ cs h w hh ht hx h0 h1
 unfold De at hx
 obtain ⟨A,c,ks,rfl,hks,hrows⟩:=hx
 unfold DT at ht
 obtain ⟨hs,hl,ht⟩:=ht
 have hhk:Ex.heights kids≤n:=by unfold Ex.height at hh; omega
 clear hh
 rw [show EY (.mk op num den mu hu du nm cnt md kids) h=cond (cond (cond (decide (h < 1)) true (!((kids.length:Int) == CP op))) true (!(CW op num den mu hu du nm cnt md))) false (EF kids (h - 1)) by rw [EY]]
 refine Ff (args:=[.agg ⟨LI op num den mu hu du nm cnt md A kids.length c⟩,.int .i64 h]) (fn:=Tryz.f124) (c:=M3) (n:=36) ?_
 refine Bi (Hi 1 90 [.code M3]) [.code M3] w.heap.size [] [] Sx [(1,.int .i64 h),(2,.pointer (some ⟨w.heap.size,0,none⟩))] (w.heap.size + 1) [⟨w.heap.size,0,LI op num den mu hu du nm cnt md A kids.length c,32,true⟩] (Bm w) fun w1 E1 hL1 hK1=>?_
 have B1:Below w.heap.size w w1:=CH hK1
 have G1:=hL1.sat.good
 refine GJ ((Cs Sx).getD #[]) ⟨[⟨w.heap.size,0,LI op num den mu hu du nm cnt md A kids.length c,32,true⟩],[(4,0,9),(7,0,0),(12,0,0)],[⟨8,[(14,.int .i64 op)],.int .i64 (CP op),(!(decide (h < 1))) && true⟩,⟨13,[(19,.agg ⟨LI op num den mu hu du nm cnt md A kids.length c⟩)],.bool (CW op num den mu hu du nm cnt md),(!(cond (decide (h < 1)) true (!((kids.length:Int) == CP op)))) && true⟩]⟩ [(1,.int .i64 h),(2,.pointer (some ⟨w.heap.size,0,none⟩)),(22,.bool (cond (cond (decide (h < 1)) true (!((kids.length:Int) == CP op))) true (!(CW op num den mu hu du nm cnt md))))] (by kernel_rfl) (by kernel_rfl) (by kernel_rfl) G1 (fun sp hsp=>?_) (fun X=>by kernel_rfl) (by kernel_rfl) fun w2 E2 b2=>?_
 ·simp only [List.mem_cons,List.not_mem_nil,or_false] at hsp
  rcases hsp with rfl | rfl
  ·exact AR 148 [.tmp 14] [.int .i64 op] (fun _=>by kernel_rfl) fun _ u hq=>AP hq (ai op u)
  ·exact AR 149 [.tmp 19] [.agg ⟨LI op num den mu hu du nm cnt md A kids.length c⟩] (fun _=>by kernel_rfl) fun _ u hq=>AP hq (Lt op num den mu hu du nm cnt md A kids.length c u hs)
 have B2:=B1.trans (b2.mono B1.size)
 have G2:=Au G1 b2
 have hone:cond (cond (decide (h < 1)) true (!((kids.length:Int) == CP op))) true (!(CW op num den mu hu du nm cnt md))=false→1≤h:=fun hq=>by
  by_cases hb:h < 1
  ·rw [decide_eq_true hb] at hq; exact nomatch hq
  ·omega
 generalize cond (cond (decide (h < 1)) true (!((kids.length:Int) == CP op))) true (!(CW op num den mu hu du nm cnt md))=bad at hone ⊢
 refine Bi 60 (AO Sx) w2.heap.size [] [] Y3 [(1,.int .i64 h),(2,.pointer (some ⟨w.heap.size,0,none⟩)),(22,.bool bad)] w2.heap.size [] (Bm w2) fun w3 E3 hL3 hK3=>?_
 have b3:Below w2.heap.size w2 w3:=CH hK3
 have B3:=B2.trans (b3.mono B2.size)
 have G3:=Au G2 b3
 cases bad with
 | true=>
  refine DB true (fun _=>?_) (fun h=>nomatch h)
  exact D6 (fn:=Tryz.f124) 60 (.bool false) fun wz Bz=>⟨rfl,B3.trans (Bz.mono B3.size)⟩
 | false=>
 rw [show cond false false (EF kids (h - 1))=EF kids (h - 1) from rfl]
 have hone:=hone rfl
 refine DB false (fun h=>nomatch h) fun _=>?_
 refine Bi 60 (AL Y3) w3.heap.size [⟨w.heap.size,0,LI op num den mu hu du nm cnt md A kids.length c,32,true⟩] [(0,9)] Sw [(1,.int .i64 h),(24,.slice A kids.length c),(25,.int .i64 (kids.length:Nat)),(26,.int .i64 ((0:Nat):Int))] w3.heap.size [⟨w.heap.size,0,LI op num den mu hu du nm cnt md A kids.length c,32,true⟩] (Iq w3 _ G3 (by simp)) fun w4 E4 hL4 hK4=>?_
 have B4:Below w.heap.size w w4:=B3.trans (hK4.below B3.size (fun k hk=>by rw [List.mem_singleton.1 hk]; exact Nat.le_refl _))
 refine Bj (by kernel_rfl) (fun E wx=>∃ (i:Nat) (E0:Nat→Value),i≤kids.length∧E=CX E0 [(1,.int .i64 h),(24,.slice A kids.length c),(25,.int .i64 (kids.length:Nat)),(26,.int .i64 (i:Nat))]∧EF kids (h - 1)=EF (kids.drop i) (h - 1)∧Below w.heap.size w wx)
  (fun E _=>kids.length - AQ (E 26)) ⟨0,E4,Nat.zero_le _,rfl,rfl,B4⟩ ?_
 rintro E wx ⟨i,E0,hi,rfl,hv,Bx⟩ hagain
 refine Bi 60 (A4 Sw) wx.heap.size [] [] PL [(1,.int .i64 h),(24,.slice A kids.length c),(25,.int .i64 (kids.length:Nat)),(26,.int .i64 (i:Nat)),(27,.bool (decide ((i:Int) < (kids.length:Int))))] wx.heap.size [] (Bm wx) fun w5 E5 hL5 hK5=>?_
 have B5:=Bx.trans ((CH hK5).mono Bx.size)
 refine DB (decide ((i:Int) < (kids.length:Int))) (fun hlt=>?_) (fun hlt=>?_)
 ·have hlt':i < kids.length:=by have:=of_decide_eq_true hlt; omega
  obtain ⟨e,he⟩:∃ e,kids[i]?=some e:=⟨_,List.getElem?_eq_getElem hlt'⟩
  rw [Vw i e he] at hv
  obtain ⟨r,hr,hxe⟩:=JT hks he
  rcases hrows with hrows | ⟨g,off,rfl,_,hg,hcell⟩
  ·rw [hrows] at hr; simp at hr
  have hrow:=hcell i r hr
  have hxl:r.length=10:=by
   obtain ⟨_,_,_,_,_,_,_,_,_,_,_,_,rfl⟩:=hxe.cells
   rfl
  have hr5:w5.rangeAt g (off + i * 10) r:=fun j u hu=>(World.cell?_of_block (B5.block g hg)).trans (hrow j u hu)
  refine Bi (As Ae 90 (AG PL)) (AG PL) w5.heap.size [] [] Y2 [(1,.int .i64 h),(24,.slice (some ⟨g,off,none⟩) kids.length c),(25,.int .i64 (kids.length:Nat)),(26,.int .i64 (i:Nat))] w5.heap.size [] (Bm w5) fun w6 E6 hL6 hK6=>?_
  have b6:Below w5.heap.size w5 w6:=CH hK6
  have B6:=B5.trans (b6.mono B5.size)
  have hr6:w6.rangeAt g (off + i * 10) r:=fun j u hu=>(World.cell?_of_block (B6.block g hg)).trans (hrow j u hu)
  refine BB (g:=g) (off:=off) (cap:=c) (sz:=10) (k:=i) (len:=kids.length) (some 28) hlt' Tryz.underlying30 ?_
  refine Bc 32 g (off + i * 10) r (some 29) (h2:=by rw [hxl]; kernel_rfl) hr6 ?_
  have hwh:IntKind.i64.wrap (h - 1)=h - 1:=IntWalk.i64_in _ (by omega)
  obtain ⟨a0,a1,a2,a3,a4,a5,a6,a7,a8,A9,n9,c9,rfl⟩:=hxe.cells
  refine Bi 60 (AF (AF Y2)) w6.heap.size [] [(0,0),(0,0)] Y1 [(1,.int .i64 h),(24,.slice (some ⟨g,off,none⟩) kids.length c),(25,.int .i64 (kids.length:Nat)),(26,.int .i64 (i:Nat)),(30,.agg ⟨LI a0 a1 a2 a3 a4 a5 a6 a7 a8 A9 n9 c9⟩),(32,.int .i64 (IntKind.i64.wrap (h - 1)))] (w6.heap.size + 1) [⟨w6.heap.size,0,LI a0 a1 a2 a3 a4 a5 a6 a7 a8 A9 n9 c9,32,true⟩] (Bm w6) fun w7 E7 hL7 hK7=>?_
  have B7:=B6.trans ((CH hK7).mono B6.size)
  rw [hwh]
  refine I0 124 [.tmp 30,.tmp 32] (some 33) [.agg ⟨LI a0 a1 a2 a3 a4 a5 a6 a7 a8 A9 n9 c9⟩,.int .i64 (h - 1)] (by kernel_rfl) (by kernel_rfl) (by kernel_rfl) ((IH e _ (h - 1) w7 (by have:=Gy he; omega) (Hg ht he) (hxe.below B7) (by omega) (by omega)).mono fun en w8 hh=>?_)
  obtain ⟨rfl,b8⟩:=hh
  refine ⟨_,rfl,?_⟩
  have B8:=B7.trans (b8.mono B7.size)
  generalize EY e (h - 1)=be at *
  refine Bi 60 (AF Y1) w8.heap.size [] [] fp [(1,.int .i64 h),(24,.slice (some ⟨g,off,none⟩) kids.length c),(25,.int .i64 (kids.length:Nat)),(26,.int .i64 (i:Nat)),(34,.bool (!be))] w8.heap.size [] (Bm w8) fun w9 E9 hL9 hK9=>?_
  have B9:=B8.trans ((CH hK9).mono B8.size)
  cases be with
  | false=>
   rw [hv]
   refine DB true (fun _=>?_) (fun h=>nomatch h)
   exact D6 (fn:=Tryz.f124) 60 (.bool false) fun wz Bz=>⟨rfl,B9.trans (Bz.mono B9.size)⟩
  | true=>
   refine DB false (fun h=>nomatch h) fun _=>?_
   refine Bi 60 (AL fp) w9.heap.size [] [] (Ai Sw) [(1,.int .i64 h),(24,.slice (some ⟨g,off,none⟩) kids.length c),(25,.int .i64 (kids.length:Nat)),(26,.int .i64 (IntKind.i64.wrap ((i:Int) + 1)))] w9.heap.size [] (Bm w9) fun w10 E10 hL10 hK10=>?_
   rw [Bf i (by omega)]
   refine hagain _ _ ⟨i + 1,E10,hlt',rfl,hv,B9.trans ((CH hK10).mono B9.size)⟩ ?_
   show kids.length - AQ (.int .i64 ((i + 1:Nat):Int)) < kids.length - AQ (.int .i64 (i:Int))
   simp only [AQ]
   omega
 ·have hie:i=kids.length:=by have:=of_decide_eq_false hlt; omega
  rw [hv,hie,List.drop_length,EF]
  exact D6 (fn:=Tryz.f124) 60 (.bool true) fun wz Bz=>⟨rfl,B5.trans (Bz.mono B5.size)⟩
theorem R0:∀ n,Nk n
 | 0=>fun e cs h w hh=>absurd hh (by cases e; unfold Ex.height; omega)
 | n + 1=>Yq n (R0 n)
end
end Go.Proofs.YtmcpjkcggfmcmaaGreatDoor

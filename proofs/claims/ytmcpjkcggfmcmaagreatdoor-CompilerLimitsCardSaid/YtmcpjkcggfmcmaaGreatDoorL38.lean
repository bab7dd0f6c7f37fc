/-
  Part 38 of a proof: contracts of functions.
-/
import Derived.Test.YtmcpjkcggfmcmaaGreatDoorL37
import Derived.Test.YtmcpjkcggfmcmaaGreatDoorL36
set_option linter.all false
namespace Go.Proofs.YtmcpjkcggfmcmaaGreatDoor
set_option maxRecDepth 100000
section
variable {n:List UInt8} {ds:List Df} {p:Int} (h0:0≤p) (h1:p + 1≤84005) (hd:∀ e∈ds,e.frm≠p + 1)
include h0 h1 hd
end
end Go.Proofs.YtmcpjkcggfmcmaaGreatDoor
namespace Go.Proofs.YtmcpjkcggfmcmaaGreatDoor
open Go.RowKit
set_option maxRecDepth 100000
set_option maxHeartbeats 1000000
def rowsSc (w:World) (A:Option Addr) (l:List (List (Int×Int×Int))):Prop:=∃ rs,DG (fun e r=>∃ A c,r=[.slice A e.length c]∧C1 w A e) l rs∧CU CG w 1 A rs
def Hw (w:World) (A:Option Addr) (l:List AJ):Prop:=Dx 6 IB w A l
abbrev MT (e:Do) (A:Option Addr) (c:Nat):List Value:=[.string ⟨⟨e.1⟩⟩,.bool e.2.1,.int .i64 e.2.2.1,.int .i64 e.2.2.2.1,.int .i64 e.2.2.2.2.1,.slice A e.2.2.2.2.2.length c]
def rowsRt (w:World) (A:Option Addr) (l:List Do):Prop:=∃ rs,DG (fun e r=>∃ A c,r=MT e A c∧Hw w A e.2.2.2.2.2) l rs∧CU CG w 6 A rs
theorem QO {α:Type} {rel:α→List Value→Prop}:∀ {l:List α} {rs:List (List Value)} {i:Nat} {e:α},DG rel l rs→l[i]?=some e→∃ r,rs[i]?=some r∧rel e r
 | [],_,_,_,_,h=>by simp at h
 | _ :: _,[],_,_,h,_=>h.elim
 | _ :: _,r :: _,0,_,h,hi=>⟨r,rfl,by simp at hi; exact hi ▸ h.1⟩
 | _ :: _,_ :: _,i + 1,_,h,hi=>by
  obtain ⟨r,h1,h2⟩:=QO (i:=i) h.2 (by simpa using hi)
  exact ⟨r,by simpa using h1,h2⟩
theorem Jx {α:Type} {rel rel':α→List Value→Prop}:∀ {l:List α} {rs:List (List Value)},(∀ e r,e∈l→rel e r→rel' e r)→DG rel l rs→DG rel' l rs
 | [],[],_,_=>trivial
 | [],_ :: _,_,h=>h.elim
 | _ :: _,[],_,h=>h.elim
 | _ :: _,_ :: _,hm,h=>⟨hm _ _ (by simp) h.1,Jx (fun e r he=>hm e r (by simp [he])) h.2⟩
theorem Jy {α β:Type} {f:α→β} {rel:α→List Value→Prop} {rel':β→List Value→Prop}:∀ {l:List α} {rs:List (List Value)},(∀ e r,e∈l→rel e r→rel' (f e) r)→DG rel l rs→DG rel' (l.map f) rs
 | [],[],_,_=>trivial
 | [],_ :: _,_,h=>h.elim
 | _ :: _,[],_,h=>h.elim
 | _ :: _,_ :: _,hm,h=>⟨hm _ _ (by simp) h.1,Jy (fun e r he=>hm e r (by simp [he])) h.2⟩
theorem rowsSc.below {w w':World} {A:Option Addr} {l:List (List (Int×Int×Int))} (h:rowsSc w A l) (B:Below w.heap.size w w'):rowsSc w' A l:=by
 obtain ⟨rs,h1,h2⟩:=h
 exact ⟨rs,Jx (fun e r _ ⟨A,c,hr,he⟩=>⟨A,c,hr,he.below B⟩) h1,CU.below h2 B⟩
theorem Hw.below {w w':World} {A:Option Addr} {l:List AJ} (h:Hw w A l) (B:Below w.heap.size w w'):Hw w' A l:=Dx.below h B
theorem rowsRt.below {w w':World} {A:Option Addr} {l:List Do} (h:rowsRt w A l) (B:Below w.heap.size w w'):rowsRt w' A l:=by
 obtain ⟨rs,h1,h2⟩:=h
 exact ⟨rs,Jx (fun e r _ ⟨A,c,hr,he⟩=>⟨A,c,hr,he.below B⟩) h1,CU.below h2 B⟩
theorem Nr {α:Type} {n:Nat} {rel:α→List Value→Prop} {w:World} {A:Option Addr} {l:List α} {rs:List (List Value)} (h1:DG rel l rs) (h2:CU CG w n A rs) (hne:0 < l.length):∃ g off,A=some ⟨g,off,none⟩∧g < w.heap.size∧∀ (i:Nat) e,l[i]?=some e→∃ r,rel e r∧w.rangeAt g (off + i * n) r:=by
 rcases h2 with h2 | ⟨g,off,rfl,_,hg,hc⟩
 ·rw [← Gk h1,h2] at hne
  exact absurd hne (Nat.lt_irrefl _)
 ·refine ⟨g,off,rfl,hg,fun i e hi=>?_⟩
  obtain ⟨r,hr,hx⟩:=QO h1 hi
  exact ⟨r,hx,fun j u hu=>hc i r hr j u hu⟩
theorem rowsSc.all {w:World} {A:Option Addr} {l:List (List (Int×Int×Int))} (h:rowsSc w A l) (hne:0 < l.length):∃ g off,A=some ⟨g,off,none⟩∧g < w.heap.size∧∀ (i:Nat) e,l[i]?=some e→∃ A1 c1,w.rangeAt g (off + i * 1) [.slice A1 e.length c1]∧C1 w A1 e:=by
 obtain ⟨rs,h1,h2⟩:=h
 obtain ⟨g,off,hA,hg,ha⟩:=Nr h1 h2 hne
 refine ⟨g,off,hA,hg,fun i e hi=>?_⟩
 obtain ⟨r,⟨A1,c1,rfl,hr⟩,hw⟩:=ha i e hi
 exact ⟨A1,c1,hw,hr⟩
theorem Hw.all {w:World} {A:Option Addr} {l:List AJ} (h:Hw w A l) (hne:0 < l.length):∃ g off,A=some ⟨g,off,none⟩∧g < w.heap.size∧∀ (i:Nat) e,l[i]?=some e→w.rangeAt g (off + i * 6) (IB e):=Dx.all h hne
theorem rowsRt.all {w:World} {A:Option Addr} {l:List Do} (h:rowsRt w A l) (hne:0 < l.length):∃ g off,A=some ⟨g,off,none⟩∧g < w.heap.size∧∀ (i:Nat) e,l[i]?=some e→∃ A1 c1,w.rangeAt g (off + i * 6) (MT e A1 c1)∧Hw w A1 e.2.2.2.2.2:=by
 obtain ⟨rs,h1,h2⟩:=h
 obtain ⟨g,off,hA,hg,ha⟩:=Nr h1 h2 hne
 refine ⟨g,off,hA,hg,fun i e hi=>?_⟩
 obtain ⟨r,⟨A1,c1,rfl,hr⟩,hw⟩:=ha i e hi
 exact ⟨A1,c1,hw,hr⟩
theorem R4 {α:Type} {T:TypeId} {n:Nat} {f:α→List Value} {A:Option Addr} {c:Nat} {l:List α} {w:World} (hn:∀ e,(f e).length=n) (h:(Th.row T n (fun e r=>r=f e) A c l).P w):Dx n f w A l:=by
 obtain ⟨rs,hr,ho⟩:=h
 have:=Nw (Gk hr) (IP (fun e r hr=>hr ▸ hn e) hr) ho
 rw [JB hr] at this
 exact this
theorem AY.rowsSc {b:Nat} {w:World} {L:List Th} {A:Option Addr} {c:Nat} {xs:List OH} (h:AY b w L) (i j:Nat) (hi:L[i]?=some (D1 A c xs)) (hj:L[j]?=some (DS xs)):rowsSc w A (xs.map Prod.fst):=by
 obtain ⟨rs,h1,h2⟩:=h.rows (fun e r hr=>hr ▸ rfl) i hi
 have hf:(DS xs).P w:=h.all j _ hj
 exact ⟨rs,Jy (fun e r he hr=>⟨e.2.1,e.2.2,hr,R4 (T:=97) (c:=e.2.2) (fun _=>rfl) (hf (K0 e) (List.mem_map_of_mem he))⟩) h1,h2⟩
theorem AY.rowsRt {b:Nat} {w:World} {L:List Th} {A:Option Addr} {c:Nat} {xs:List Fu} (h:AY b w L) (i j:Nat) (hi:L[i]?=some (Fv A c xs)) (hj:L[j]?=some (Ef xs)):rowsRt w A (xs.map R3):=by
 obtain ⟨rs,h1,h2⟩:=h.rows (fun e r hr=>hr ▸ rfl) i hi
 have hf:(Ef xs).P w:=h.all j _ hj
 exact ⟨rs,Jy (fun e r he hr=>⟨e.2.2.2.2.2.2.1,e.2.2.2.2.2.2.2,hr,R4 (T:=53) (c:=e.2.2.2.2.2.2.2) (fun _=>rfl) (hf (Hv e) (List.mem_map_of_mem he))⟩) h1,h2⟩
theorem eK (w:World) (a b c a' b' c':Int):(binOp .neq 97 (.agg #[.int .i64 a,.int .i64 b,.int .i64 c]) (.agg #[.int .i64 a',.int .i64 b',.int .i64 c'])).run Tryz.prog w=.ok (.bool (!(a == a' && (b == b' && c == c')))) w:=by
 simp [go_sem]
 repeat' split
 all_goals simp_all
theorem eJ (w:World) (a b c d e f a' b' c' d' e' f':Int):(binOp .neq 53 (.agg #[.int .i64 a,.int .i64 b,.int .i64 c,.int .i64 d,.int .i64 e,.int .i64 f]) (.agg #[.int .i64 a',.int .i64 b',.int .i64 c',.int .i64 d',.int .i64 e',.int .i64 f'])).run Tryz.prog w=.ok (.bool (!(a == a' && (b == b' && (c == c' && (d == d' && (e == e' && f == f'))))))) w:=by
 simp [go_sem]
 repeat' split
 all_goals simp_all
end Go.Proofs.YtmcpjkcggfmcmaaGreatDoor
namespace Go.Proofs.YtmcpjkcggfmcmaaGreatDoor
section
variable {P:Program} {ops:Array Oper} {Q:Exit→Act→World→Prop} {md:Region.Mode} {W:Wr} {listed0:Array Bool} {a0:Act} {J:Array Bool→(Nat→Value)→World→Prop} {Ext:World→World→Prop} {L:List C3} {w0:World}
end
section
variable {P:Program} {ops:Array Oper} {Q:Exit→Act→World→Prop} {md:Region.Mode} {W:Wr} {listed0:Array Bool} {n:Nat} {E:Nat→Value} {J:Array Bool→(Nat→Value)→World→Prop} {Ext:World→World→Prop} {L:List C3} {w0:World}
def eW (P:Program) (ops:Array Oper) (n:Nat) (E:Nat→Value) (W:Wr) (J:Array Bool→(Nat→Value)→World→Prop) (Ext:World→World→Prop) (L:List C3) (l:C3):Prop:=
 (∀ vs w w',Ext w w'→l.says vs w→l.says vs w')∧
  ∀ (listed:Array Bool) (vals:Nat→Value) (w:World),listed.getD l.idx true=false→(∀ j∈l.before,listed.getD j false=true)→J listed vals w→GY l.before vals w L→AN P (ops.getD l.idx default) (FL n E W vals) w (fun v w'=>J (listed.setIfInBounds l.idx true) (FW vals l.idx v) w'∧Ext w w'∧l.says (l.deps.map (FW vals l.idx v)) w')
def NE (P:Program) (ops:Array Oper) (n:Nat) (E:Nat→Value) (W:Wr) (J:Array Bool→(Nat→Value)→World→Prop) (Ext:World→World→Prop) (L:List C3):List C3→Prop
 | []=>True
 | l :: r=>eW P ops n E W J Ext L l∧NE P ops n E W J Ext L r
theorem NE.all:∀ {r:List C3},NE P ops n E W J Ext L r→∀ l∈r,eW P ops n E W J Ext L l
 | [],_,l,hl=>by cases hl
 | m :: r,h,l,hl=>by
  rcases List.mem_cons.1 hl with rfl | hl2
  ·exact h.1
  ·exact NE.all h.2 l hl2
end
end Go.Proofs.YtmcpjkcggfmcmaaGreatDoor
namespace Go.Proofs.YtmcpjkcggfmcmaaGreatDoor
open Go.RowKit
set_option maxRecDepth 100000
structure Ii (w0:World) (T1 T2:TypeId) (Z1 S1 Z2:List Value) (a b c:Nat) (listed:Array Bool) (vals:Nat→Value) (w:World):Prop where
 below:Below w0.heap.size w0 w
 ca:listed.getD c false=true→listed.getD a false=true
 own:∃ g h,AY w0.heap.size w ((cond (listed.getD a false) [Th.ent ⟨g,0,cond (listed.getD c false) S1 Z1,T1,true⟩] [])++(cond (listed.getD b false) [Th.ent ⟨h,0,Z2,T2,true⟩] []))∧
  (listed.getD a false=true→vals a=.pointer (some ⟨g,0,none⟩))∧(listed.getD b false=true→vals b=.pointer (some ⟨h,0,none⟩))
section
variable {w0:World} {T1 T2:TypeId} {Z1 S1 Z2:List Value} {a b c i:Nat} {listed:Array Bool} {vals:Nat→Value} {w w':World} {v:Value}
theorem Ii.start (h:(listed.getD a false,listed.getD b false,listed.getD c false)=(false,false,false)):Ii w0 T1 T2 Z1 S1 Z2 a b c listed vals w0.drew:=by
 simp only [Prod.mk.injEq] at h
 refine ⟨(Below.refl _ _).drew,fun hc=>(by rw [h.2.2] at hc; cases hc),0,0,?_,fun ha=>(by rw [h.1] at ha; cases ha),fun hb=>(by rw [h.2.1] at hb; cases hb)⟩
 rw [h.1,h.2.1]
 exact AY.nil (Nat.le_refl _)
theorem Lu {vals:Nat→Value} {i j:Nat} {v:Value} (h:j≠i):FW vals i v j=vals j:=by unfold FW; rw [if_neg h]
theorem Ii.pure (h:Ii w0 T1 T2 Z1 S1 Z2 a b c listed vals w) (hi:listed.getD i true=false) (ha:a≠i) (hb:b≠i) (hc:c≠i):Ii w0 T1 T2 Z1 S1 Z2 a b c (listed.setIfInBounds i true) (FW vals i v) w:=by
 obtain ⟨h1,h2,g,h',h3,h4,h5⟩:=h
 refine ⟨h1,?_,g,h',?_,?_,?_⟩
 ·rw [getD_set_ne false (Ne.symm hc),getD_set_ne false (Ne.symm ha)]; exact h2
 ·rw [getD_set_ne false (Ne.symm hc),getD_set_ne false (Ne.symm ha),getD_set_ne false (Ne.symm hb)]; exact h3
 ·rw [getD_set_ne false (Ne.symm ha),Lu ha]; exact h4
 ·rw [getD_set_ne false (Ne.symm hb),Lu hb]; exact h5
theorem ao {listed:Array Bool} {i:Nat} (hi:listed.getD i true=false):(listed.setIfInBounds i true).getD i false=true:=by
 have:=Gl hi
 simp [this]
theorem Ii.box (h:Ii w0 T1 T2 Z1 S1 Z2 a b c listed vals w) (hla:listed.getD a false=true) (hi:listed.getD c true=false) (ha:a≠c) (hb:b≠c):∃ g,vals a=.pointer (some ⟨g,0,none⟩)∧BM.good w ⟨g,0,Z1,T1,true⟩∧
  ∀ w' v,BM.good w' ⟨g,0,S1,T1,true⟩→Ca g w w'→Ii w0 T1 T2 Z1 S1 Z2 a b c (listed.setIfInBounds c true) (FW vals c v) w':=by
 obtain ⟨h1,h2,g,h',h3,h4,h5⟩:=h
 rw [hla,Fa hi] at h3
 refine ⟨g,h4 hla,h3.all 0 _ rfl,fun w' v hg hB=>?_⟩
 have hge:=(h3.lo 0 _ rfl g rfl).1
 refine ⟨h1.trans (hB.below hge (Nat.le_of_lt (Nat.lt_of_le_of_lt hge (h3.lo 0 _ rfl g rfl).2))),fun _=>(by rw [getD_set_ne false (Ne.symm ha)]; exact hla),g,h',?_,?_,?_⟩
 ·rw [ao hi,getD_set_ne false (Ne.symm ha),getD_set_ne false (Ne.symm hb),hla]
  exact h3.set 0 rfl hB.size (t:=Th.ent ⟨g,0,S1,T1,true⟩) hg (fun k hk=>⟨by rw [show k=g from hk]; exact hg.1,.inl hk⟩) (fun k hk hne=>hB.block k hk hne)
 ·rw [getD_set_ne false (Ne.symm ha),Lu ha]; exact h4
 ·rw [getD_set_ne false (Ne.symm hb),Lu hb]; exact h5
theorem Ii.done (h:Ii w0 T1 T2 Z1 S1 Z2 a b c listed vals w) (hl:(listed.getD a false,listed.getD b false,listed.getD c false)=(true,true,true)):∃ g h',vals a=.pointer (some ⟨g,0,none⟩)∧vals b=.pointer (some ⟨h',0,none⟩)∧AY w0.heap.size w [Th.ent ⟨g,0,S1,T1,true⟩,Th.ent ⟨h',0,Z2,T2,true⟩]:=by
 simp only [Prod.mk.injEq] at hl
 obtain ⟨h1,h2,g,h',h3,h4,h5⟩:=h
 rw [hl.1,hl.2.1,hl.2.2] at h3
 exact ⟨g,h',h4 hl.1,h5 hl.2.1,h3⟩
end
end Go.Proofs.YtmcpjkcggfmcmaaGreatDoor
namespace Go.Proofs.YtmcpjkcggfmcmaaGreatDoor
open Go.RowKit
set_option maxRecDepth 100000
set_option maxHeartbeats 600000
abbrev Fj (A:Option Addr) (c:Nat) (l:List Int):Th:=Th.row 3 1 (fun e r=>r=HP e) A c l
theorem AY.rowsInt {b:Nat} {w:World} {L:List Th} {A:Option Addr} {c:Nat} {l:List Int} (h:AY b w L) (i:Nat) (hi:L[i]?=some (Fj A c l)):rowsInt w A l:=h.rowsF (fun _=>rfl) i hi
theorem Ns (z:List Value):∀ n,Jv n z=(List.replicate n z).flatten
 | 0=>rfl
 | n + 1=>by rw [List.replicate_succ,List.flatten_cons,← Ns z n]; rfl
theorem QN {α:Type} {rel:α→List Value→Prop} {e:α} {r:List Value} (h:rel e r):∀ n,DG rel (List.replicate n e) (List.replicate n r)
 | 0=>trivial
 | n + 1=>⟨h,QN h n⟩
theorem KF (z:List Value):∀ n,(List.replicate n z).flatten.length=n * z.length
 | 0=>by simp
 | n + 1=>by rw [List.replicate_succ,List.flatten_cons,List.length_append,KF z n,Nat.succ_mul,Nat.add_comm]
theorem Nt:∀ {l:List Nat} {l':List Int} {rs:List (List Value)},l'=l.map (fun (n:Nat)=>(n:Int))→DG (fun (e:Int) r=>r=HP e) l' rs→DG (fun (e:Nat) r=>r=Eb e) l rs
 | [],_,[],rfl,_=>trivial
 | [],_,_ :: _,rfl,h=>h.elim
 | _ :: _,_,[],rfl,h=>h.elim
 | _ :: _,_,_ :: _,rfl,h=>⟨h.1,Nt rfl h.2⟩
theorem AY.natRow {b:Nat} {w:World} {L:List Th} {A:Option Addr} {c:Nat} {l':List Int} (h:AY b w L) (l:List Nat) (hl:l'=l.map (fun (n:Nat)=>(n:Int))) (i:Nat) (hi:L[i]?=some (Fj A c l')):AY b w (L.set i (BE A c l)):=by
 obtain ⟨rs,h1,h2⟩:(Fj A c l').P w:=h.all i _ hi
 have hlen:l'.length=l.length:=by rw [hl,List.length_map]
 refine h.set i hi (Nat.le_refl _) ⟨rs,Nt hl h1,by rw [← hlen]; exact h2⟩ (fun k hk=>?_) (fun _ _ _=>rfl)
 exact ⟨(h.lo i _ hi k hk).2,.inl hk⟩
section
variable {P:Program} {fi:FuncId} {R:Ending→World→Prop} {b k:Nat} {td:List Item} {E:Nat→Value} {L:List Th} {w:World}
theorem bD {α:Type} (rel:α→List Value→Prop) (z0:α) (zs:List Value) (hz0:rel z0 zs) {T:TypeId} {sz bytes:Nat} (hinfo:(P.info? T).map (fun i=>(i.zero.map (fun z=>z.cells.toList),i.size,i.bytes))=some (some zs,sz,bytes)) (hzs:zs.length=sz)
  (H:AY b w L) (o:Oper) (hc:EJ k E td=some o) {t:TypeId} {x y:Operand} (ho:o.op=.makeSlice t x y) (ht:P.underlying t=some (.slice T)) (n:Nat) (hx:BJ k E x=.int .i64 (n:Int)) (hy:BJ k E y=.int .i64 (n:Int)) (hn:n≤10000000000) (hby:bytes≤1024)
  (hk:∀ g w',w'.heap.size=w.heap.size + 1→AY b w' (L++[Th.row T sz rel (some ⟨g,0,none⟩) n (List.replicate n z0)])→Below b w w'→At P fi R (AF td) (Fr k (BO E o.dst (.slice (some ⟨g,0,none⟩) n n))) w'):At P fi R td (Fr k E) w:=by
 obtain ⟨inf,hi,hzz⟩:=Option.map_eq_some_iff.1 hinfo
 simp only [Prod.mk.injEq] at hzz
 obtain ⟨hz,hs,hb⟩:=hzz
 obtain ⟨z,hz,hzc⟩:=Option.map_eq_some_iff.1 hz
 have hbytes:(inf.bytes:Int) * ((n:Nat):Int)≤281474976710656:=by
  have:inf.bytes * n≤1024 * 10000000000:=Nat.mul_le_mul (by omega) hn
  have h4:((inf.bytes * n:Nat):Int)≤281474976710656:=by omega
  rwa [Int.natCast_mul] at h4
 have hrun:=run_make (P:=P) w t T inf z ht hi hz .i64 .i64 (n:Int) (n:Int) (by omega) (by omega) hbytes (by omega)
 have hcs:(madeCells z.cells (((n:Nat):Int).toNat * inf.size)).toList=(List.replicate n zs).flatten:=by
  have h:=OQ z.cells.toList n
  rw [Array.toArray_toList,hzc,hzs,← hs,Ns] at h
  rw [Int.toNat_natCast]
  exact h
 have hfl:=KF zs n
 rw [hzs] at hfl
 generalize madeCells z.cells (((n:Nat):Int).toNat * inf.size)=cs at hrun hcs
 have hB:Below w.heap.size w (w.alloc (.cells cs T)):=⟨rfl,rfl,rfl,by simp,fun q hq=>Fp w _ q hq⟩
 have hxx:(execOp (BJ k E) o).run P w=.ok (.value (.slice (some ⟨w.heap.size,0,none⟩) n n)) (w.alloc (.cells cs T)):=by
  unfold execOp
  simp only [ho,hx,hy]
  rw [Sem.run_bind,hrun]
  rfl
 refine Ki o hc hxx (hk _ _ (by simp) (H.join hB ⟨by simp,fun i u hi=>?_,fun i u hi q hq=>?_,fun i j s u hi hj hij=>?_⟩) (hB.mono H.base))
 ·cases i with
  | zero=>
   obtain rfl:=Option.some.inj hi
   refine ⟨List.replicate n zs,QN hz0 n,by rw [List.length_replicate,hfl],.inr ⟨w.heap.size,n,cs,by rw [List.length_replicate],Nat.zero_le _,heap_alloc_new w _,by rw [List.length_replicate]; exact Nat.le_refl _,by unfold maxLen; omega,?_,?_⟩⟩
   ·rw [← Array.length_toList,hcs,hfl]
   ·rw [hcs,List.length_replicate,List.take_of_length_le (by rw [hfl]; exact Nat.le_refl _)]
  | succ i=>simp at hi
 ·cases i with
  | zero=>
   obtain rfl:=Option.some.inj hi
   obtain rfl:w.heap.size=q:=by have:=Option.some.inj hq; injection this
   simp
  | succ i=>simp at hi
 ·cases i with
  | zero=>cases j with
   | zero=>exact absurd rfl hij
   | succ j=>simp at hj
  | succ i=>simp at hi
end
def eP:Op→Bool
 | .makeSlice _ _ _=>true
 | _=>false
end Go.Proofs.YtmcpjkcggfmcmaaGreatDoor

/-
  Part 21 of a proof: contracts of functions.
-/
import Derived.Test.YtmcpjkcggfmcmaaGreatDoorD00
import Derived.Shelf.Strings.Builder1
import Derived.Test.YtmcpjkcggfmcmaaGreatDoorProg
import Derived.Lib.UnsafeStr
import Derived.Test.YtmcpjkcggfmcmaaGreatDoorD20
import Derived.Lib.AppendStr
set_option linter.all false
namespace Go.Proofs
open Go.Shelf
def Tryz.cc_ren:Go.Shelf.Ren:=⟨fun | 240=>101 | 276=>131 | n=>n,fun | 0=>0 | 3=>3 | 4=>4 | 5=>5 | 9=>9 | 20=>20 | 37=>122 | 70=>121 | 72=>124 | 164=>180 | n=>n,fun | n=>n⟩
theorem Tryz.cc240:Go.Proofs.Lays.n240 Tryz.prog Tryz.cc_ren:={
 mixed:=by kernel_rfl
 f240:=Tryz.func101.trans (congrArg some (by kernel_rfl))
 f276:=Tryz.func131.trans (congrArg some (by kernel_rfl))
 t0:=Tryz.underlying0
 a0:=Tryz.isAgg0
 z0:=Tryz.sizeOf0
 v0:=Tryz.zeroValue0
 t4:=Tryz.underlying4
 a4:=Tryz.isAgg4
 z4:=Tryz.sizeOf4
 v4:=Tryz.zeroValue4
 t9:=Tryz.underlying9
 a9:=Tryz.isAgg9
 z9:=Tryz.sizeOf9
 v9:=Tryz.zeroValue9
 t20:=Tryz.underlying20
 a20:=Tryz.isAgg20
 z20:=Tryz.sizeOf20
 v20:=Tryz.zeroValue20
 t70:=Tryz.underlying121
 a70:=Tryz.isAgg121
 z70:=Tryz.sizeOf121
 v70:=Tryz.zeroValue121
 t72:=Tryz.underlying124
 a72:=Tryz.isAgg124
 z72:=Tryz.sizeOf124
 v72:=Tryz.zeroValue124
 t164:=Tryz.underlying180
 a164:=Tryz.isAgg180
 z164:=Tryz.sizeOf180
 v164:=Tryz.zeroValue180 }
theorem Tryz.ccX:Builder.X72 Tryz.prog Tryz.cc_ren:={
 sizeBuilder:=by kernel_rfl
 liesBuilder:=by kernel_rfl }
open Go.RowKit in
theorem Tryz.copyCheck_used (b:Nat) (w:World) (h:w.cell? ⟨b,0,none⟩=some (.pointer (some ⟨b,0,none⟩))):Calls Tryz.prog 101 #[.pointer (some ⟨b,0,none⟩)] w fun e w'=>e=.returned (.tuple #[])∧w'=w:=Any.Builder_copyCheck_used Tryz.cc240 Tryz.ccX b w h
open Go.RowKit in
theorem Tryz.copyCheck_fresh (b:Nat) (w:World) (h0:w.cell? ⟨b,0,none⟩=some (.pointer none)) (hsh:w.shape? b=some (124,2)) (hfz:w.frozen? ⟨b,0,none⟩=false):Calls Tryz.prog 101 #[.pointer (some ⟨b,0,none⟩)] w fun e w'=>e=.returned (.tuple #[])∧w'=w.setCell ⟨b,0,none⟩ (.pointer (some ⟨b,0,none⟩)):=Any.Builder_copyCheck_fresh Tryz.cc240 Tryz.ccX b w h0 hsh hfz
end Go.Proofs
namespace Go.Proofs
open Go.Shelf Go.RowKit
set_option maxHeartbeats 1000000 in
set_option maxRecDepth 100000 in
theorem Tryz.bstring_any (b g m:Nat) (l:List UInt8) (w:World) (hc:w.cell? ⟨b,1,none⟩=some (.slice (some ⟨g,0,none⟩) l.length m)) (h0:l≠[]) (hm:l.length≤m) (hb:∀ (j:Nat) x,l[j]?=some x→w.cell? ⟨g,j,none⟩=some (.int .u8 (x.toNat:Int))) (hs:∃ sz,w.shape? g=some (5,sz)∧l.length≤sz) (h63:l.length≤9223372036854775807) :
  Calls Tryz.prog 65 #[.pointer (some ⟨b,0,none⟩)] w fun e w'=>e=.returned (.string ⟨⟨l⟩⟩)∧w'=w.drew.freeze ⟨g,0,none⟩ l.length:=by
 have mixed:Tryz.prog.follows .mixedOrders=true:=by kernel_rfl
 have hl0:l.length≠0:=by simpa using h0
 obtain ⟨sz,hs1,hs2⟩:=hs
 have c1:w.drew.cell? ⟨b,1,none⟩=some (.slice (some ⟨g,0,none⟩) l.length m):=hc
 have hSD:(Builtin.unsafeSliceData_ #[122] 158 #[.slice (some ⟨g,0,none⟩) l.length m]).run Tryz.prog w.drew=.ok (.pointer (some ⟨g,0,none⟩)) w.drew:=
  Lib.run_unsafeSliceData_row _ _ _ _ _ _ (by omega)
 have hUS:(Builtin.unsafeString_ #[158,3] 9 #[.pointer (some ⟨g,0,none⟩),.int .i64 l.length]).run Tryz.prog w.drew=.ok (.string ⟨l.toArray⟩) (w.drew.freeze ⟨g,0,none⟩ l.length):=by
  refine Lib.run_unsafeString_row w.drew 158 3 9 5 Tryz.underlying158 (by kernel_rfl) g sz hs1 l h0 hs2 h63 ?_
  intro j x hx
  have:=hb j x hx
  cases j with
  | zero=>exact this
  | succ j=>show w.cell? ⟨g,0 + (j + 1),none⟩=_; rw [Nat.zero_add]; exact this
 go_enter Tryz.func65,Tryz.ntmps65
 go_wp2
 go_region_o
 all_goals (go_wp2; go_ret; exact ⟨rfl,rfl⟩)
end Go.Proofs
namespace Go.Proofs.YtmcpjkcggfmcmaaGreatDoor
open Go.RowKit
set_option maxRecDepth 100000
def WA (e:UInt8):List Value:=[.int .u8 (e.toNat:Int)]
def Gc (A:Option Addr) (c:Nat) (l:List UInt8):Th:=Th.row 5 1 (fun e r=>r=WA e) A c l
theorem Y4 {l:List UInt8} {rs:List (List Value)} (h:Dm (fun e r=>r=WA e) l rs):rs.flatten=Lib.strCells ⟨⟨l⟩⟩:=by
 induction l generalizing rs with
 | nil=>cases rs with
  | nil=>rfl
  | cons r rs=>exact absurd h (by simp [Dm])
 | cons x l ih=>cases rs with
  | nil=>exact absurd h (by simp [Dm])
  | cons r rs=>
   obtain ⟨a,h2⟩:=h
   subst a
   rw [List.flatten_cons,ih h2]
   rfl
theorem T0 (l:List UInt8):Dm (fun e r=>r=WA e) l (l.map WA):=by
 induction l with
 | nil=>exact trivial
 | cons x l ih=>exact ⟨rfl,ih⟩
section
variable {P:Program} {w:World}
theorem Ru (t u ty e:TypeId) (i:TypeInfo) (ht:P.underlying t=some (.slice e)) (hu:P.underlying u=some .string) (hi:P.info? e=some i) (hz:i.zero=some (.int .u8 0)) (a:i.size=1) (h:i.bytes=1)
  (A:Option Addr) (c n:Nat) (xs:List Value) (b:w.ownsRow 0 e 1 (.slice A n c) n xs) (s:ByteArray) (hs:0 < s.size) (q:n + s.size≤1000000) :
  ∃ d j w',(Builtin.append_ #[t,u] ty #[.slice A n c,.string s]).run P w=.ok (.slice (some ⟨d,0,none⟩) (n + s.size) j) w'∧w'.ownsRow 0 e 1 (.slice (some ⟨d,0,none⟩) (n + s.size) j) (n + s.size) (xs++Lib.strCells s)∧w.grownBy w' (Value.slice A n c).ownBlock∧(A=some ⟨d,0,none⟩∨d=w.heap.size):=by
 obtain ⟨r,w',hr,h2,h3,_⟩:=Lib.run_append_own_string (P:=P) w 0 t u ty e i ht hu hi hz a h _ n xs b s (by simp only [maxLen]; omega) (by omega) (Nat.zero_le _)
 have key:∃ d j,r=.slice (some ⟨d,0,none⟩) (n + s.size) j∧(A=some ⟨d,0,none⟩∨d=w.heap.size):=by
  have k:xs.length=n:=by simpa using b.1
  rcases b.2 with ⟨o,h0⟩ | ⟨g,cp,p,o,z,hg,v,y,x,l⟩
  ·cases o
   have f:=run_append_nil_string (P:=P) w t u ty e i (.int .u8 0) ht hu hi hz s hs (by omega) (by rw [h]; omega)
   rw [hr] at f
   injection f with hv _
   exact ⟨w.heap.size,grownCap w s.size 0 e,by rw [hv,Nat.zero_add],.inr rfl⟩
  ·injection o with m hn hc
   subst m; subst hc
   by_cases hroom:n + s.size≤c
   ·have f:=Lib.run_append_room_string (P:=P) w t u ty e i ht hu hi a g n c p hg s hroom (by omega)
    rw [hr] at f
    injection f with hv _
    exact ⟨g,_,hv,.inl rfl⟩
   ·have f:=Lib.run_append_grow_string (P:=P) w t u ty e i (.int .u8 0) ht hu hi hz ⟨g,0,none⟩ n c xs (by rw [a]; simpa using k) (b.cells (g:=g) rfl) s (by omega) (by omega) (by rw [h]; exact growslice_fits (by omega) (by omega))
    rw [hr] at f
    injection f with hv _
    exact ⟨w.heap.size,_,hv,.inr rfl⟩
 obtain ⟨d,j,rfl,m⟩:=key
 exact ⟨d,j,w',hr,h2,h3,m⟩
variable {fi:FuncId} {R:Ending→World→Prop}
theorem ii {b:Nat} {A:Option Addr} {c:Nat} {l:List UInt8} {L:List Th} {k:Nat} {td:List Item} {E:Nat→Value} (H:AU b w L) (i:Nat) (hi:L[i]?=some (Gc A c l)) (str:List UInt8) (hne:str≠[])
  (o:Oper) (hc:FY k E td=some o) (s x:Operand) (t u:TypeId) (ho:o.op=.call { callee:=.builtin .append,args:=#[s,x],argTypes:=#[t,u] })
  (ht:P.underlying t=some (.slice 5)) (hu:P.underlying u=some .string) (hinfo:(P.info? 5).map (fun i=>(i.zero,i.size,i.bytes))=some (some (.int .u8 0),1,1))
  (hs:BN k E s=.slice A l.length c) (hx:BN k E x=.string ⟨⟨str⟩⟩) (hlen:l.length + str.length≤1000000)
  (hk:∀ A' c' w',AU b w' (L.set i (Gc A' c' (l++str)))→Below b w w'→At P fi R (AE td) (Fr k (Bc E o.dst (.slice A' (l++str).length c'))) w'):At P fi R td (Fr k E) w:=by
 obtain ⟨rs,hrs,hP⟩:(Gc A c l).P w:=H.all i _ hi
 obtain ⟨inf,hin,hz,hsize,hby⟩:∃ inf,P.info? 5=some inf∧inf.zero=some (.int .u8 0)∧inf.size=1∧inf.bytes=1:=by
  cases hi:P.info? 5 with
  | none=>rw [hi] at hinfo; cases hinfo
  | some inf=>
   rw [hi] at hinfo
   simp only [Option.map_some,Option.some.injEq,Prod.mk.injEq] at hinfo
   exact ⟨inf,rfl,hinfo⟩
 have hsz:(⟨⟨str⟩⟩:ByteArray).size=str.length:=rfl
 obtain ⟨g',c',w',hr,h2,h3,h5⟩:=Ru (P:=P) (w:=w) t u o.type _ inf ht hu hin hz hsize hby A c l.length _ hP ⟨⟨str⟩⟩ (by rw [hsz]; exact List.length_pos_iff.2 hne) (by rw [hsz]; exact hlen)
 rw [hsz] at hr h2
 let z0:=Gc (some ⟨g',0,none⟩) c' (l++str)
 have hrow:z0.P w':=⟨(l++str).map WA,T0 _,by
  rw [List.length_append,Y4 (T0 _),show Lib.strCells ⟨⟨l++str⟩⟩=Lib.strCells ⟨⟨l⟩⟩++Lib.strCells ⟨⟨str⟩⟩ by simp [Lib.strCells],← Y4 hrs]
  exact h2⟩
 have hF:∀ q,z0.F q→q < w'.heap.size∧((Gc A c l).F q∨w.heap.size≤q):=fun q (hq:some (⟨g',0,none⟩:Addr)=some ⟨q,0,none⟩)=>by
  obtain rfl:g'=q:=by injection hq with hq; injection hq
  refine ⟨(Js h2 (g:=g') rfl).2,?_⟩
  rcases h5 with h5 | h5
  ·exact .inl h5
  ·right
   omega
 have hkeep:∀ q,q < w.heap.size→¬ (Gc A c l).F q→w'.heap[q]?=w.heap[q]?:=fun q hq hnf=>h3.block q hq fun he=>hnf (DC hP he.symm).1
 have H':AU b w' (L.set i z0):=H.set i hi h3.size hrow hF hkeep
 have hB:Below b w w':=⟨h3.os,h3.tape,h3.output,h3.size,fun q hq=>h3.block q (Nat.lt_of_lt_of_le hq H.base) fun he=>by
  have:=(H.lo i _ hi q (DC hP he.symm).1).1
  omega⟩
 unfold FY at hc
 split at hc
 ·rename_i ops i' r k'
  split at hc
  ·rename_i o' ho'
   split at hc
   ·rename_i hw
    obtain rfl:=Option.some.inj hc
    refine FU ho' (by rw [Ez]; exact hw) ?_
    unfold Oper.wp execOp
    rw [Cm]
    simp only [ho,resolve,invoke,builtin,Sem.run_bind,Sem.run_pure,Result.andThen_ok,List.map_toArray,List.map_cons,List.map_nil,hs,hx,hr]
    show wpOps P ops _ r ((Fr k E).put o'.dst (.slice (some ⟨g',0,none⟩) (l.length + str.length) c')) w'
    rw [Dy]
    have:=hk _ _ w' H' hB
    rw [List.length_append] at this
    exact this
   ·cases hc
  ·cases hc
 ·cases hc
end
end Go.Proofs.YtmcpjkcggfmcmaaGreatDoor
namespace Go.Proofs.YtmcpjkcggfmcmaaGreatDoor
open Go.RowKit
set_option maxRecDepth 100000
abbrev Fs (n:Nat):List Value:=[D (n:Int)]
abbrev lp (p:Int×Int):List Value:=[D p.1,D p.2]
abbrev rowsNat:=FB 1 Fs
abbrev BP (A:Option Addr) (c:Nat) (l:List Nat):Th:=Th.row 3 1 (fun e r=>r=Fs e) A c l
abbrev Bo (A:Option Addr) (c:Nat) (l:List (List UInt8)):Th:=Th.row 9 1 (fun e r=>r=Hx e) A c l
abbrev Iz (A:Option Addr) (c:Nat) (l:List (Int×Int)):Th:=Th.row 70 2 (fun e r=>r=lp e) A c l
abbrev Fe (w:World) (A:Option Addr) (c:Nat) (l:List Ex):Th:=Th.row 32 10 (D2 CY w) A c l
abbrev Ct (w:World) (A:Option Addr) (c:Nat) (l:List Df):Th:=Th.row 34 21 (Fp CY w) A c l
theorem Tx {w:World}:∀ {l:List Ex} {rs:List (List Value)},Dm (D2 CY w) l rs→Ev CY w l rs
 | [],[],_=>by unfold Ev; rfl
 | [],_ :: _,h=>h.elim
 | _ :: _,[],h=>h.elim
 | _ :: _,_ :: _,h=>by unfold Ev; exact ⟨_,_,rfl,h.1,Tx h.2⟩
theorem Ty {w:World}:∀ {l:List Df} {rs:List (List Value)},Dm (Fp CY w) l rs→FQ CY w l rs
 | [],[],_=>by unfold FQ; rfl
 | [],_ :: _,h=>h.elim
 | _ :: _,[],h=>h.elim
 | _ :: _,_ :: _,h=>by unfold FQ; exact ⟨_,_,rfl,h.1,Ty h.2⟩
theorem LN {w:World} {e:Ex} {A:Option Addr} {c:Nat} (h:rowsEx w A e.ks):D2 CY w e (CW e A c):=by
 obtain ⟨ks,a,h2⟩:=h
 cases e with
 | mk a1 a2 a3 a4 a5 a6 a7 a8 a9 kids=>
  unfold D2
  exact ⟨A,c,ks,rfl,a,h2⟩
theorem Vv {w:World} {e:Ex} {r:List Value} (h:D2 CY w e r):r.length=10:=by
 cases e with
 | mk a1 a2 a3 a4 a5 a6 a7 a8 a9 kids=>
  unfold D2 at h
  obtain ⟨A,c,ks,rfl,_⟩:=h
  rfl
theorem cW {w:World} {e:Ex} {r:List Value} (h:D2 CY w e r):∃ A c,r=CW e A c∧rowsEx w A e.ks:=by
 cases e with
 | mk a1 a2 a3 a4 a5 a6 a7 a8 a9 kids=>
  unfold D2 at h
  obtain ⟨A,c,ks,rfl,a,h2⟩:=h
  exact ⟨A,c,rfl,ks,a,h2⟩
theorem JW {w:World} {d:Df} {b:Option Addr} {e:Nat} {a:Option Addr} {c:Nat} (f:DW w b d.ents) (h2:rowsEx w a d.body.ks):Fp CY w d (Ce d b e a c):=
 ⟨b,e,CW d.body a c,LN h2,f,rfl⟩
theorem QU {α:Type} {a:α→List Value→Prop}:∀ {l:List α} {rs:List (List Value)} {i:Nat} {e:α},Dm a l rs→l[i]?=some e→∃ r,rs[i]?=some r∧a e r
 | [],_,_,_,_,hi=>by simp at hi
 | _ :: _,[],_,_,h,_=>h.elim
 | _ :: _,r :: _,0,_,h,hi=>by simp at hi; subst hi; exact ⟨r,rfl,h.1⟩
 | _ :: _,_ :: _,i + 1,_,h,hi=>by simpa using QU h.2 (by simpa using hi)
section
variable {b:Nat} {w w0:World} {L:List Th} {A:Option Addr} {c:Nat}
theorem AU.rowAt {α:Type} {T:TypeId} {n:Nat} {a:α→List Value→Prop} {l:List α} (h:AU b w L) (i:Nat) (hi:L[i]?=some (Th.row T n a A c l)) (e:0 < l.length):∃ g,A=some ⟨g,0,none⟩∧g < w.heap.size:=by
 obtain ⟨rs,hr,ho⟩:(Th.row T n a A c l).P w:=h.all i _ hi
 rcases ho.2 with ⟨d,j⟩ | ⟨g,cap,f,d,_,hg,_⟩
 ·omega
 ·cases d
  exact ⟨g,rfl,Ak hg⟩
theorem AU.rowsNat {l:List Nat} (h:AU b w L) (i:Nat) (hi:L[i]?=some (BP A c l)):rowsNat w A l:=h.rowsF (fun _=>rfl) i hi
theorem AU.rowsStr {l:List (List UInt8)} (h:AU b w L) (i:Nat) (hi:L[i]?=some (Bo A c l)):rowsStr w A l:=h.rowsF (fun _=>rfl) i hi
theorem AU.rowsEx {l:List Ex} (h:AU b w L) (B:Below w0.heap.size w0 w) (i:Nat) (hi:L[i]?=some (Fe w0 A c l)):rowsEx w A l:=by
 obtain ⟨rs,a,h2⟩:=h.rows (fun _ _=>Vv) i hi
 exact ⟨rs,(Tx a).below B,h2⟩
theorem AU.rowsDf {l:List Df} (h:AU b w L) (B:Below w0.heap.size w0 w) (i:Nat) (hi:L[i]?=some (Ct w0 A c l)):rowsDf w A l:=by
 obtain ⟨rs,a,h2⟩:=h.rows (fun _ _ hd=>hd.len) i hi
 exact ⟨rs,(Ty a).below B,h2⟩
theorem AU.cells {α:Type} {T:TypeId} {n:Nat} {a:α→List Value→Prop} {g off:Nat} {l:List α} (hn:∀ e r,a e r→r.length=n) (h:AU b w L) (i:Nat) (hi:L[i]?=some (Th.row T n a (some ⟨g,off,none⟩) c l)) {k:Nat} {e:α} (he:l[k]?=some e):∃ r,a e r∧w.rangeAt g (off + k * n) r:=by
 obtain ⟨rs,m,h2⟩:=h.rows hn i hi
 obtain ⟨r,hr,f⟩:=QU m he
 obtain ⟨o,d,j,_,hc⟩:=Ld h2 hr
 obtain ⟨rfl,rfl⟩:g=o∧off=d:=by
  simp only [Option.some.injEq,Addr.mk.injEq] at j
  exact ⟨j.1,j.2.1⟩
 exact ⟨r,f,hc⟩
theorem AU.cellsF {α:Type} {T:TypeId} {n:Nat} {f:α→List Value} {g off:Nat} {l:List α} (hn:∀ e,(f e).length=n) (h:AU b w L) (i:Nat) (hi:L[i]?=some (Th.row T n (fun e r=>r=f e) (some ⟨g,off,none⟩) c l)) {k:Nat} {e:α} (he:l[k]?=some e):w.rangeAt g (off + k * n) (f e):=by
 obtain ⟨r,a,h2⟩:=h.cells (fun e r hr=>hr ▸ hn e) i hi he
 exact a ▸ h2
end
section
variable {b:Nat} {w w':World} {X Y X' Y' Z L:List Th}
end
def Bb:Op→Bool
 | .call ⟨.builtin .append,_,_⟩=>true
 | _=>false
end Go.Proofs.YtmcpjkcggfmcmaaGreatDoor
namespace Go.Proofs.YtmcpjkcggfmcmaaGreatDoor
noncomputable section
open Go.RowKit
set_option maxRecDepth 100000
attribute [local irreducible] BO CB AE AG AL Ay Aj AP Bc Cq Eb CT CO At Fr
def Gt (b:Nat) (q:Option Addr) (A:Option Addr) (n c:Nat):BI:=⟨b,0,[.pointer q,.slice A n c],124,true⟩
theorem Rl {g b:Nat} {q A:Option Addr} {n c:Nat} {L:List Th} {w:World} (H:AU g w (Th.ent (Gt b q A n c) :: L)) (i:q=none∨q=some ⟨b,0,none⟩) :
  Calls Tryz.prog 101 ([.pointer (some ⟨b,0,none⟩)]:List Value).toArray w fun e w'=>e=.returned (.tuple #[])∧Below g w w'∧AU g w' (Th.ent (Gt b (some ⟨b,0,none⟩) A n c) :: L):=by
 have hg:(Gt b q A n c).good w:=H.all 0 _ rfl
 have hb:g≤b∧b < w.heap.size:=H.lo 0 _ rfl b rfl
 have d:w.heap[b]?=some (.cells #[.pointer q,.slice A n c] 124 (0,0)):=hg.2.1
 rcases i with rfl | rfl
 ·refine (Tryz.copyCheck_fresh b w (by simp [World.cell?,d]) (by simp [World.shape?,d]) (by simp [World.frozen?,d])).mono fun e w' h=>?_
  obtain ⟨rfl,rfl⟩:=h
  have j:(w.setCell ⟨b,0,none⟩ (.pointer (some ⟨b,0,none⟩))).heap[b]?=some (.cells #[.pointer (some ⟨b,0,none⟩),.slice A n c] 124 (0,0)):=by
   simp [World.setCell,Array.getElem?_modify,d]
  have h2:∀ k,k≠b→(w.setCell ⟨b,0,none⟩ (.pointer (some ⟨b,0,none⟩))).heap[k]?=w.heap[k]?:=fun k a=>by
   simp [World.setCell,Array.getElem?_modify,Ne.symm a]
  have f:(w.setCell ⟨b,0,none⟩ (.pointer (some ⟨b,0,none⟩))).heap.size=w.heap.size:=by simp [World.setCell]
  refine ⟨rfl,⟨rfl,rfl,rfl,by rw [f]; exact Nat.le_refl _,fun k a=>h2 k (by omega)⟩,?_⟩
  exact H.set 0 rfl (by rw [f]; exact Nat.le_refl _) (t:=Th.ent (Gt b (some ⟨b,0,none⟩) A n c)) ⟨by rw [f]; exact hb.2,j,rfl⟩ (fun k a=>⟨by rw [f,show k=b from a]; exact hb.2,.inl a⟩) fun k _ a=>h2 k a
 ·refine (Tryz.copyCheck_used b w (by simp [World.cell?,d])).mono fun e w' h=>?_
  obtain ⟨rfl,rfl⟩:=h
  exact ⟨rfl,Below.refl _ _,H⟩
noncomputable def ch:Code:=Tryz.f62.body.getD .skip
def eJ:=AB 60 ([.code ch])
def eI:=AB (BA Bb 90 (AE eJ)) (AE eJ)
def uV:=AB 60 (AE eI)
theorem Qs {b:Nat} {q A:Option Addr} {c:Nat} {bs:List UInt8} {L:List Th} {w f:World} (B:Below w.heap.size w f) (H:AU w.heap.size f ([Th.ent (Gt b q A bs.length c),Gc A c bs]++L)) (k:q=none∨q=some ⟨b,0,none⟩) (s:List UInt8) (hs:s≠[]) (hl:bs.length + s.length≤1000000) :
  Calls Tryz.prog 62 ([.pointer (some ⟨b,0,none⟩),.string ⟨⟨s⟩⟩]:List Value).toArray f fun e w'=>∃ d a,e=.returned (.tuple #[D s.length,.nilIface])∧Below w.heap.size w w'∧AU w.heap.size w' ([Th.ent (Gt b (some ⟨b,0,none⟩) d (bs++s).length a),Gc d a (bs++s)]++L):=by
 refine Af (args:=[.pointer (some ⟨b,0,none⟩),.string ⟨⟨s⟩⟩]) (fn:=Tryz.f62) (c:=ch) (n:=19) ?_
 have t:Wk w f [] [Th.ent (Gt b q A bs.length c),Gc A c bs] L:=⟨B,H⟩
 refine AC eJ t [] fun w1 i=>?_
 refine CJ (Rl i.H k) fun e j l=>?_
 obtain ⟨rfl,o,v⟩:=l
 refine ⟨_,rfl,?_⟩
 have r:Wk w j [Gt b (some ⟨b,0,none⟩) A bs.length c] [Gc A c bs] L:=⟨i.B.trans o,v⟩
 refine BG Bb eI r [(0,1)] fun z g=>?_
 refine ii g.H (g.ix 0) (g.at 0 rfl) s hs (DM eI) (by kernel_rfl) (.tmp 12) (.tmp 13) 122 9 (by kernel_rfl) Tryz.underlying122 Tryz.underlying9 (by kernel_rfl) (by kernel_rfl) (by kernel_rfl) hl fun d a y u m=>?_
 have p:=g.put 0 (by simp) m u
 refine C8 uV [Gt b (some ⟨b,0,none⟩) d (bs++s).length a] p [(0,1)] fun x h=>?_
 exact Ab h (0,0) (.tuple #[D s.length,.nilIface]) ⟨d,a,rfl,h.B,h.H⟩
theorem rQ (w:World) (g n:Nat):(∀ k,k≠g→(w.drew.freeze ⟨g,0,none⟩ n).heap[k]?=w.heap[k]?)∧(w.drew.freeze ⟨g,0,none⟩ n).heap.size=w.heap.size∧(w.drew.freeze ⟨g,0,none⟩ n).os=w.os∧(w.drew.freeze ⟨g,0,none⟩ n).tape=w.tape∧(w.drew.freeze ⟨g,0,none⟩ n).output=w.output:=by
 unfold World.freeze
 split
 ·exact ⟨fun _ _=>rfl,rfl,rfl,rfl,rfl⟩
 ·refine ⟨fun k a=>?_,?_,rfl,rfl,rfl⟩
  ·show (w.heap.modify g _)[k]?=_
   rw [Array.getElem?_modify,if_neg (Ne.symm a)]
  ·show (w.heap.modify g _).size=_
   simp
theorem Yv {p b:Nat} {q A:Option Addr} {c:Nat} {bs:List UInt8} {L:List Th} {w:World} (H:AU p w (Th.ent (Gt b q A bs.length c) :: Gc A c bs :: L)) (d:bs≠[]) (hl:bs.length≤1000000) :
  Calls Tryz.prog 65 ([.pointer (some ⟨b,0,none⟩)]:List Value).toArray w fun e w'=>e=.returned (.string ⟨⟨bs⟩⟩)∧Below p w w':=by
 have hg:(Gt b q A bs.length c).good w:=H.all 0 _ rfl
 have m:w.heap[b]?=some (.cells #[.pointer q,.slice A bs.length c] 124 (0,0)):=hg.2.1
 obtain ⟨rs,i,y⟩:(Gc A c bs).P w:=H.all 1 _ rfl
 rcases y.2 with ⟨_,h0⟩ | ⟨g,cap,h,z,v,f,l,u,t,a⟩
 ·exact absurd (List.eq_nil_of_length_eq_zero h0) d
 ·injection z with hA _ hc
  subst hA; subst hc
  have r:=(H.lo 1 _ rfl g rfl).1
  have n:=Y4 i
  refine (Tryz.bstring_any b g c bs w (by simp [World.cell?,m]) d l (fun j x o=>?_) ⟨h.size,by simp [World.shape?,f],by omega⟩ (by omega)).mono fun e w' m=>?_
  ·have s:j < bs.length:=(List.getElem?_eq_some_iff.1 o).1
   have h2:(h.toList.take (bs.length * 1))[j]?=some (.int .u8 (x.toNat:Int)):=by
    rw [a,n]
    simp [Lib.strCells,o]
   rw [List.getElem?_take,if_pos (by omega)] at h2
   simpa [World.cell?,f] using h2
  ·obtain ⟨rfl,rfl⟩:=m
   obtain ⟨f1,f2,f3,f4,f5⟩:=rQ w g bs.length
   exact ⟨rfl,⟨f3,f4,f5,by rw [f2]; exact Nat.le_refl _,fun k hk=>f1 k (by omega)⟩⟩
end
end Go.Proofs.YtmcpjkcggfmcmaaGreatDoor

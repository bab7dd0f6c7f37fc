/-
  Part 11 of a proof: contracts of functions.
-/
import Derived.Test.YtmcpjkcggfmcmaaGreatDoorD10
import Derived.Test.YtmcpjkcggfmcmaaGreatDoorD03
import Derived.IntWalk
import Derived.OwnWalk
set_option linter.all false
namespace Go.Proofs.YtmcpjkcggfmcmaaGreatDoor
open Go.RowKit
theorem Dr.mono {m n:Nat} {x:Ex} (h:Dr m x) (hl:m≤n):Dr n x:=⟨h.1,Nat.le_trans h.2 hl⟩
def FT (m:Nat):List Ex→Prop
 | []=>True
 | e :: es=>Dr m e∧FT m es
theorem FT.okEs {m:Nat}:∀ {es:List Ex},FT m es→okEs es∧Ex.heights es≤m
 | [],_=>by unfold Go.Proofs.YtmcpjkcggfmcmaaGreatDoor.okEs Ex.heights; exact ⟨trivial,Nat.zero_le _⟩
 | e :: es,h=>by
  have h2:=FT.okEs h.2
  unfold Go.Proofs.YtmcpjkcggfmcmaaGreatDoor.okEs Ex.heights
  exact ⟨⟨h.1.1,h2.1⟩,Nat.max_le.2 ⟨h.1.2,h2.2⟩⟩
theorem FT.snoc {m:Nat}:∀ {es:List Ex} {e:Ex},FT m es→Dr m e→FT m (es++[e])
 | [],_,_,h=>⟨h,trivial⟩
 | _ :: _,_,hs,h=>⟨hs.1,FT.snoc hs.2 h⟩
theorem F7 {m:Nat} {op num den mu hu du:Int} {name:List UInt8} {b mode:Int} {a:List Ex} (h:Hk op num den mu hu du name b mode a.length) (c:FT m a):Dr (m + 1) (.mk op num den mu hu du name b mode a):=by
 have:=c.okEs
 refine ⟨?_,?_⟩
 ·unfold Q6; exact ⟨h,this.1⟩
 ·unfold Ex.height; omega
theorem Bm.snoc {lo:Nat} {w:World} {e:Ex} {c:List Value} (h:BX lo w e c):∀ {es:List Ex} {ks:List (List Value)},Bm lo w es ks→Bm lo w (es++[e]) (ks++[c])
 | [],ks,hs=>by unfold Bm at hs; subst hs; exact Bm.one h
 | e' :: es,ks,hs=>by
  unfold Bm at hs
  obtain ⟨b,cs,rfl,a,h2⟩:=hs
  exact Bm.cons a (Bm.snoc h h2)
def Bv (b:Nat) (ns:List Int) (n:Nat):Prop:=
 ∀ (tb:Bool) (tm th td h rules:Int) (w:World),Bl b ns w→(tb,tm,th,td)∈BJ→h≤n→h≤100→-100≤h→0≤rules→rules≤10→
  Calls Tryz.prog 36 #[.pointer (some ⟨b,0,none⟩),.agg #[.bool tb,D tm,D th,D td],D h,D rules] w (Iv b ns (Dr (max 1 n)) w)
structure Jb (b:Nat) (ns:List Int) (t s:Bool×Int×Int×Int) (g m lo:Nat) (w:World) (es:List Ex) (ks:List (List Value)) (wx:World):Prop where
 exs:Bm lo wx es ks
 gen:FT m es
 len:∀ r∈ks,r.length=10
 st:FE b ns t w wx
 some:wx.heap[g]?=some (.cells #[.bool s.1,D s.2.1,D s.2.2.1,D s.2.2.2] 26 (0,0))
 lo_le:lo≤wx.heap.size
 lo_b:w.heap.size + 2≤lo
 g_lo:g < lo∧g≠b
theorem Jb.step {b:Nat} {ns:List Int} {t s:Bool×Int×Int×Int} {g m lo:Nat} {w d a:World} {es:List Ex} {ks:List (List Value)} (h:Jb b ns t s g m lo w es ks d) (c:b < w.heap.size) (e:Bl b ns a) (hb:Ae b d a):Jb b ns t s g m lo w es ks a:=
 ⟨Bm.keep (.of_but hb (by have:=h.lo_b; omega)) _ _ h.exs,h.gen,h.len,h.st.next c e hb,(hb.block _ (Ak h.some) h.g_lo.2).trans h.some,Nat.le_trans h.lo_le hb.size,h.lo_b,h.g_lo⟩
theorem Jb.below {b:Nat} {ns:List Int} {t s:Bool×Int×Int×Int} {g m lo:Nat} {w a d:World} {es:List Ex} {ks:List (List Value)} (h:Jb b ns t s g m lo w es ks a) (c:b < w.heap.size) (hb:Below a.heap.size a d):Jb b ns t s g m lo w es ks d:=
 h.step c (h.st.tape.below hb) (.of_below hb)
theorem Jb.push {b:Nat} {ns:List Int} {t s:Bool×Int×Int×Int} {g m lo:Nat} {w d c:World} {es:List Ex} {ks:List (List Value)} (h:Jb b ns t s g m lo w es ks d) (e:b < w.heap.size) {x:Ex} {cs:List Value} (i:Dr m x) (f:BX d.heap.size c x cs) (j:Bl b ns c) (hb:Ae b d c) :
  Jb b ns t s g m lo w (es++[x]) (ks++[cs]) c:=by
 have h2:=h.step e j hb
 have a:=BX.mono h.lo_le _ _ f
 refine ⟨Bm.snoc a h2.exs,FT.snoc h.gen i,fun r hr=>?_,h2.st,h2.some,h2.lo_le,h2.lo_b,h2.g_lo⟩
 rw [List.mem_append,List.mem_singleton] at hr
 rcases hr with hr | rfl
 ·exact h.len r hr
 ·exact BX.len a
end Go.Proofs.YtmcpjkcggfmcmaaGreatDoor
namespace Go.Proofs.YtmcpjkcggfmcmaaGreatDoor
open Go.RowKit
structure Ph (b:Nat) (ns:List Int) (w:World) (mem:List BI) (wx:World):Prop where
 lies:DH (mem.map (·.id)) wx.heap.size wx ⟨wx.heap.size,mem,(0,0),[]⟩
 tape:Bl b ns wx
 but:Ae b w wx
 lt:b < w.heap.size
 ids:∀ e∈mem,w.heap.size≤e.id
theorem Bl.kept {b:Nat} {ns:List Int} {w w':World} {O:List Nat} (h:Bl b ns w) (e:∀ k∈O,b < k) (d:EC O w.heap.size w w'):Bl b ns w':=by
 have c:=h.lt
 obtain ⟨v,k,a,hc,hi⟩:=h
 have key:∀ g,g≤b→w'.heap[g]?=w.heap[g]?:=fun g hg=>d.block g (by omega) (fun hm=>by have:=e g hm; omega)
 exact ⟨v,k,a,(key b (Nat.le_refl _)).trans hc,hi.keep (fun g hg=>key g (by omega))⟩
theorem Ae.kept {b:Nat} {u w w':World} {O:List Nat} (h:Ae b u w) (d:∀ k∈O,u.heap.size≤k) (c:EC O w.heap.size w w'):Ae b u w':=
 ⟨c.os.trans h.os,c.tape.trans h.tape,c.output.trans h.output,Nat.le_trans h.size c.size,fun k a hb=>(c.block k (Nat.lt_of_lt_of_le a h.size) (fun hm=>by have:=d k hm; omega)).trans (h.block k a hb)⟩
theorem Mn {O:List Nat} {B:Nat} {w:World} {z:Nat} {mem:List BI} {x:Nat×Nat} {q:List (Nat×Nat)} (h:DH O B w ⟨z,mem,x,q⟩):DH (mem.map (·.id)) w.heap.size w ⟨w.heap.size,mem,(0,0),[]⟩:=
 iP (show DH O B w ⟨w.heap.size,mem,(0,0),[]⟩ from ⟨⟨rfl,h.sat.good,h.sat.apart⟩,h.le,h.own⟩)
theorem Ph.start {b:Nat} {ns:List Int} {w:World} (h:Bl b ns w):Ph b ns w [] w:=
 ⟨Br w,h,.refl _ _,h.lt,fun e he=>(by cases he)⟩
theorem Ph.run {b:Nat} {ns:List Int} {w c a:World} {mem mem':List BI} {z:Nat} {O:List Nat} {B:Nat} {x:Nat×Nat} {q:List (Nat×Nat)} (h:Ph b ns w mem c) (d:EC (mem.map (·.id)) c.heap.size c a) (g:DH O B a ⟨z,mem',x,q⟩) (hi:∀ e∈mem',w.heap.size≤e.id):Ph b ns w mem' a:=by
 have f:∀ k∈mem.map (·.id),w.heap.size≤k:=fun k hm=>by
  obtain ⟨e,he,rfl⟩:=List.mem_map.1 hm
  exact h.ids e he
 exact ⟨Mn g,h.tape.kept (fun k hm=>by have:=f k hm; have:=h.lt; omega) d,h.but.kept f d,h.lt,hi⟩
theorem Ph.call {b:Nat} {ns:List Int} {w c a:World} {mem:List BI} (h:Ph b ns w mem c) (d:Bl b ns a) (hb:Ae b c a):Ph b ns w mem a:=
 ⟨Mn (RA h.lies hb.size (fun e he=>hb.block e.id (h.lies.sat.good e he).1 (fun f=>by have:=h.ids e he; have:=h.lt; omega))),d,h.but.trans hb,h.lt,h.ids⟩
theorem Ph.below {b:Nat} {ns:List Int} {w a c:World} {mem:List BI} (h:Ph b ns w mem a) (hb:Below a.heap.size a c):Ph b ns w mem c:=h.call (h.tape.below hb) (.of_below hb)
theorem Ph.grown {b:Nat} {ns:List Int} {w a c:World} {mem:List BI} {row:Option Nat} (h:Ph b ns w mem a) (hg:a.grownBy c row) (hr:∀ g,row=some g→w.heap.size≤g∧∀ e∈mem,e.id≠g):Ph b ns w mem c:=by
 have d:=h.lt
 obtain ⟨v,k,f,hc,hi⟩:=h.tape
 have i:=Ak hc
 have key:∀ g,g < w.heap.size→g < a.heap.size→c.heap[g]?=a.heap[g]?:=fun g m h2=>hg.block g h2 (fun e=>by have:=(hr g e.symm).1; omega)
 refine ⟨Mn (RA h.lies hg.size (fun e he=>hg.block e.id (h.lies.sat.good e he).1 (fun e'=>(hr e.id e'.symm).2 e he rfl))),⟨v,k,f,(key b d i).trans hc,hi.keep (fun g l=>key g (by omega) (by omega))⟩,?_,h.lt,h.ids⟩
 have hs:=h.but.size
 exact ⟨hg.os.trans h.but.os,hg.tape.trans h.but.tape,hg.output.trans h.but.output,Nat.le_trans hs hg.size,fun k j hb=>(key k j (by omega)).trans (h.but.block k j hb)⟩
theorem Ge {w:World} {base:Nat} {e:TypeId} {size:Nat} {v:Value} {k:Nat} {xs:List Value} (h:w.ownsRow base e size v k xs):∃ A c,v=.slice A k c:=by
 rcases h.2 with ⟨rfl,rfl⟩ | ⟨g,cap,a,rfl,_⟩
 ·exact ⟨none,0,rfl⟩
 ·exact ⟨_,_,rfl⟩
end Go.Proofs.YtmcpjkcggfmcmaaGreatDoor
namespace Go.Proofs.YtmcpjkcggfmcmaaGreatDoor
noncomputable section
open Go.RowKit
structure Df where
  kind:Int
  name:List UInt8
  tb:Bool
  tm:Int
  th:Int
  td:Int
  frm:Int
  ents:List (Int×Int×Int)
  body:Ex
  mode:Int
  num:Int
  den:Int
def DZ (e:Int×Int×Int):List Value:=[D e.1,D e.2.1,D e.2.2]
def Df.head (d:Df) (A:Option Addr) (c:Nat):List Value:=[D d.kind,.string ⟨d.name.toArray⟩,.bool d.tb,D d.tm,D d.th,D d.td,D d.frm,.slice A d.ents.length c]
def Df.tail (d:Df):List Value:=[D d.mode,D d.num,D d.den]
def Kq (lo:Nat) (w:World) (d:Df) (cs:List Value):Prop:=
  ∃ A c bs,BX lo w d.body bs∧G5 lo w 3 A (d.ents.map DZ)∧cs=d.head A c++bs++d.tail
theorem Kq.keep {lo:Nat} {w w':World} {d:Df} {cs:List Value} (h:Kq lo w d cs) (hb:Dx lo w w'):Kq lo w' d cs:=by
  obtain ⟨A,c,bs,b,h2,a⟩:=h
  exact ⟨A,c,bs,BX.keep hb _ _ b,h2.keep hb,a⟩
theorem Kq.mono {lo a:Nat} {w:World} {d:Df} {cs:List Value} (h:Kq lo w d cs) (hl:a≤lo):Kq a w d cs:=by
  obtain ⟨A,c,bs,e,h2,b⟩:=h
  exact ⟨A,c,bs,BX.mono hl _ _ e,h2.mono hl,b⟩
theorem Kq.len {lo:Nat} {w:World} {d:Df} {cs:List Value} (h:Kq lo w d cs):cs.length=21:=by
  obtain ⟨A,c,bs,a,_,rfl⟩:=h
  simp [Df.head,Df.tail,BX.len a]
def LO:Ex:=.mk 0 0 0 0 0 0 [] 0 0 []
def Y7 (e:Int×Int×Int):Prop:=0≤e.1∧e.1≤100∧(e.2.1,e.2.2)∈Co
def mb (d:Df):Prop:=d.kind=2∧d.body=LO∧d.mode=0∧d.num=0∧d.den=0∧(∀ e∈d.ents,Y7 e)∧d.ents.length≤3
def d9 (b:Nat) (ns:List Int) (P:Df→Prop) (w:World) (e:Ending) (w':World):Prop:=
  ∃ d cs,P d∧Kq w.heap.size w' d cs∧e=.returned (.agg cs.toArray)∧Bl b ns w'∧Ae b w w'
noncomputable def Ut:Code:=Tryz.f32.body.getD .skip
def pt (b o:Nat):Value:=.pointer (some ⟨b,o,none⟩)
def Fk:List Value:=[D 0,.string ⟨#[]⟩,.bool false,D 0,D 0,D 0,D 0,.slice none 0 0,D 0,D 0,D 0,D 0,D 0,D 0,.string ⟨#[]⟩,D 0,D 0,.slice none 0 0,D 0,D 0,D 0]
def LP (nm:List UInt8) (tb:Bool) (tm th td frm:Int) (v:Value):List Value:=[D 2,.string ⟨nm.toArray⟩,.bool tb,D tm,D th,D td,D frm,v,D 0,D 0,D 0,D 0,D 0,D 0,.string ⟨#[]⟩,D 0,D 0,.slice none 0 0,D 0,D 0,D 0]
def WJ:=AB 60 [.code Ut]
def WI:=AB 60 (AE WJ)
def Rw:=AB 60 (AE WI)
def Oh:=AB 60 (Ay Rw)
def WH:=AB 60 (AG Oh)
def rY:=AB 60 (AL Oh)
def iw:=AB 60 (AP WH)
def FW:Array Oper:=ID Tryz.f32 6
def l5:Wr:=[(25,0),(26,1),(27,2),(28,3),(29,4),(30,5),(31,6)]
def mQ (v:Value):Prop:=∃ x,x∈Co∧v=.agg #[D x.1,D x.2]
def mP (key:Int) (v:Value):Prop:=∃ x,x∈Co∧v=.agg #[D key,D x.1,D x.2]
def mO (b:Nat) (key:Int) (v:Value) (w:World):Prop:=∃ x B,x∈Co∧v=.slice (some ⟨B,0,none⟩) 1 1∧w.heap[B]?=some (.cells [D key,D x.1,D x.2].toArray 97 (0,0))∧B≠b
def Ki (b:Nat) (w:World) (key:Int) (v:Value):List Ci:=
  [AN 0 [] (.pointer (some ⟨w.heap.size + 2,7,none⟩)),AN 1 [0] v,AN 2 [] (D key),AN 3 [] (.pointer (some ⟨b,0,none⟩)),
   ⟨4,[3],[4],fun vs _=>mQ (vs.getD 0 undef)⟩,⟨5,[2,3,4],[5],fun vs _=>mP key (vs.getD 0 undef)⟩,⟨6,[2,3,4,5],[6],fun vs w=>mO b key (vs.getD 0 undef) w⟩]
theorem wh (b:Nat) (w:World) (key:Int) (v:Value):(EY .any FW l5 (Array.replicate 10 false) 40 (Ki b w key v) && bare FW (Ki b w key v))=true:=by kernel_rfl
theorem rM:(Tryz.prog.info? 97).map (fun i=>(i.zero,i.size,i.bytes))=some (some (.agg #[D 0,D 0,D 0]),3,24):=by kernel_rfl
def En (w:World) (nm:List UInt8) (tb:Bool) (tm th td frm:Int) (r:List Value) (v:Value):List BI:=[⟨w.heap.size,0,[.bool tb,D tm,D th,D td],26,true⟩,⟨w.heap.size + 1,0,r,34,true⟩,⟨w.heap.size + 2,0,LP nm tb tm th td frm v,34,true⟩]
theorem JK {w:World} {nm:List UInt8} {tb:Bool} {tm th td frm:Int} {r:List Value} {v:Value}:∀ e∈En w nm tb tm th td frm r v,w.heap.size≤e.id:=by
  intro e he
  simp only [En,List.mem_cons,List.not_mem_nil,or_false] at he
  rcases he with rfl | rfl | rfl <;> simp
def iv:Value→Int
  | .int _ n=>n
  | _=>0
def wu (b:Nat) (ns:List Int) (w:World) (nm:List UInt8) (tb:Bool) (tm th td frm:Int) (E:Nat→Value) (wx:World):Prop:=
  ∃ (E':Nat→Value) (i key:Int) (v:Value) (es:List (Int×Int×Int)),E=Aw E' [(0,pt b 0),(8,pt (w.heap.size + 1) 0),(9,pt (w.heap.size + 2) 0),(10,D key),(11,D i)]∧0≤i∧i + es.length≤3∧0≤key∧key≤1 + 4 * es.length∧(∀ e∈es,Y7 e)∧
    Ph b ns w (En w nm tb tm th td frm Fk v) wx∧wx.ownsRow (w.heap.size + 3) 97 3 v es.length (es.flatMap DZ)
section
variable {b:Nat} {ns:List Int} {nm:List UInt8} {tb:Bool} {tm th td frm:Int} {w:World}
def Hp (b:Nat) (w:World) (key i:Int):List (Nat×Value):=[(0,pt b 0),(8,pt (w.heap.size + 1) 0),(9,pt (w.heap.size + 2) 0),(10,D key),(11,D i)]
def N2 (b:Nat) (ns:List Int) (w:World) (nm:List UInt8) (tb:Bool) (tm th td frm:Int) (v:Value) (es:List (Int×Int×Int)) (wx:World):Prop:=
  Ph b ns w (En w nm tb tm th td frm Fk v) wx∧wx.ownsRow (w.heap.size + 3) 97 3 v es.length (es.flatMap DZ)
theorem N2.call {v:Value} {es:List (Int×Int×Int)} {c a:World} (h:N2 b ns w nm tb tm th td frm v es c) (d:Bl b ns a) (hb:Ae b c a):N2 b ns w nm tb tm th td frm v es a:=
  ⟨h.1.call d hb,GY h.2 (fun g hg=>by
    have:=h.2.lt g hg
    have:=h.1.lt
    exact hb.block g (by omega) (by omega))⟩
theorem N2.below {v:Value} {es:List (Int×Int×Int)} {a c:World} (h:N2 b ns w nm tb tm th td frm v es a) (hb:Below a.heap.size a c):N2 b ns w nm tb tm th td frm v es c:=h.call (h.1.tape.below hb) (.of_below hb)
theorem I3 {r:List Value} {v v0:Value} {k:Nat} {xs:List Value} {a b:World} (h:a.ownsRow (w.heap.size + 3) 97 3 v k xs) (c:EC ((En w nm tb tm th td frm r v0).map (·.id)) a.heap.size a b):b.ownsRow (w.heap.size + 3) 97 3 v k xs:=
  GY h (fun g hg=>by
    have:=h.lt g hg
    refine c.block g (by omega) (fun hm=>?_)
    simp only [En,List.map_cons,List.map_nil,List.mem_cons,List.not_mem_nil,or_false] at hm
    omega)
theorem cY (es:List (Int×Int×Int)) (e:Int×Int×Int):(es++[e]).flatMap DZ=es.flatMap DZ++DZ e:=by simp
theorem iZ (es:List (Int×Int×Int)):es.flatMap DZ=(es.map DZ).flatten:=by rw [List.flatMap_def]
theorem Tr {lo size k:Nat} {T:TypeId} {v:Value} {rs:List (List Value)} {d:World} (h:d.ownsRow lo T size v k rs.flatten) (hl:∀ r∈rs,r.length=size) (hs:0 < size):∃ A c,v=.slice A rs.length c∧G5 lo d size A rs:=by
  have a:rs.flatten.length=rs.length * size:=by
    clear h
    induction rs with
    | nil=>simp
    | cons r rs ih=>rw [List.flatten_cons,List.length_append,ih (fun r hr=>hl r (by simp [hr])),hl r (by simp),List.length_cons,Nat.succ_mul]; omega
  have f:k=rs.length:=by
    have:=h.1
    rw [a] at this
    exact (Nat.eq_of_mul_eq_mul_right hs this).symm
  subst f
  rcases h.2 with ⟨rfl,l⟩ | ⟨g,cap,m,rfl,hg,hb,hn,hm,hc,ht⟩
  · have:rs=[]:=List.eq_nil_of_length_eq_zero l
    subst this
    exact ⟨none,0,rfl,.inl rfl⟩
  · refine ⟨some ⟨g,0,none⟩,cap,rfl,.inr ⟨g,0,rfl,hg,fun i r hi j u e=>?_⟩⟩
    have hr:=hl r (List.mem_of_getElem? hi)
    have b:j < size:=by rw [← hr]; exact (List.getElem?_eq_some_iff.1 e).1
    have hf:=UT rs size hl i j r hi b
    rw [e,← ht,List.getElem?_take] at hf
    split at hf
    · unfold World.cell?
      simp only [hb]
      rw [Nat.zero_add]
      simpa using hf
    · cases hf
set_option maxRecDepth 100000 in
theorem mT {E:Nat→Value} {key i:Int} {v:Value} {es:List (Int×Int×Int)} :
    GW Tryz.prog FW 40 (Aw E (Hp b w key i)) l5 (N2 b ns w nm tb tm th td frm v es) (Ae b) (Ki b w key v) (Ki b w key v):=by
  refine ⟨BF (Ae.refl b) (fun _ _ _ _=>by kernel_rfl),?_,BF (Ae.refl b) (fun _ _ _ _=>by kernel_rfl),BF (Ae.refl b) (fun _ _ _ _=>by kernel_rfl),?_,?_,?_,trivial⟩
  · refine ⟨fun _ _ _ _ _ h=>h,fun vals u hC hb=>?_⟩
    obtain ⟨h0,_⟩:=hb
    exact AH.knownE [(25,0,.pointer (some ⟨w.heap.size + 2,7,none⟩))] (by kernel_rfl) ⟨(List.cons.inj h0).1,trivial⟩
      (AH.reads ⟨0,En w nm tb tm th td frm Fk v,(2,7),[]⟩ hC.1.lies.sat.good v ⟨hC,.refl _ _,rfl⟩)
  · refine ⟨fun _ _ _ _ _ h=>h,fun vals u hC hb=>?_⟩
    obtain ⟨h3,_⟩:=hb
    refine AH.call (f:=40) [.tmp 28] (args:=[.pointer (some ⟨b,0,none⟩)]) (ats:=#[57]) rfl ?_ (BW _ _) ?_
    · rw [show [.tmp 28].map (C0 40 (Aw E (Hp b w key i)) l5 vals)=[vals 3] by kernel_rfl,(List.cons.inj h3).1]
    · refine (Nx b ns u hC.1.tape).mono ?_
      rintro e u' ⟨x,hx,rfl,hT,hB⟩
      exact ⟨_,rfl,hC.call hT hB,hB,x,hx,rfl⟩
  · refine ⟨fun _ _ _ _ _ h=>h,fun vals u hC hb=>?_⟩
    obtain ⟨h2,_,⟨x,hx,e4⟩,_⟩:=hb
    exact AH.knownE [(27,2,D key),(29,4,.agg #[D x.1,D x.2])] (by kernel_rfl) ⟨(List.cons.inj h2).1,e4,trivial⟩
      (AH.value (v:=.agg #[D key,D x.1,D x.2]) (w':=u) ⟨hC,.refl _ _,x,hx,rfl⟩)
  · refine ⟨fun vs u u' _ he ⟨x,B,h1,h2,h3,h4⟩=>⟨x,B,h1,h2,(he.block _ (Ak h3) h4).trans h3,h4⟩,fun vals u hC hb=>?_⟩
    obtain ⟨_,_,_,⟨x,hx,e5⟩,_⟩:=hb
    have hal:Below u.heap.size u (u.alloc (.cells [D key,D x.1,D x.2].toArray 97)):=(Below.refl _ _).alloc (Nat.le_refl _) _
    refine AH.knownE [(30,5,.agg #[D key,D x.1,D x.2])] (by kernel_rfl) ⟨e5,trivial⟩
      (AH.value (v:=.slice (some ⟨u.heap.size,0,none⟩) 1 1) (w':=u.alloc (.cells [D key,D x.1,D x.2].toArray 97)) ⟨hC.below hal,.of_below hal,x,u.heap.size,hx,rfl,heap_alloc_new _ _,?_⟩)
    have:=hC.1.tape.lt
    omega
set_option maxRecDepth 100000 in
theorem MX (hT:Bl b ns w):Calls Tryz.prog 32 #[pt b 0,.string ⟨nm.toArray⟩,.agg #[.bool tb,D tm,D th,D td],D frm] w (d9 b ns (fun d=>mb d∧d.name=nm∧d.tb=tb∧d.tm=tm∧d.th=th∧d.td=td∧d.frm=frm) w):=by
  refine GD (args:=[pt b 0,.string ⟨nm.toArray⟩,.agg #[.bool tb,D tm,D th,D td],D frm]) (fn:=Tryz.f32) (c:=Ut) (n:=40) ?_
  let z1:=En w nm tb tm th td frm Fk (.slice none 0 0)
  refine Am 60 [.code Ut] w.heap.size [] [(0,0),(2,0)] WJ [(0,pt b 0),(8,pt (w.heap.size + 1) 0),(9,pt (w.heap.size + 2) 0),(16,pt b 0)] (w.heap.size + 3) z1 (Br w) fun w1 E1 hL1 hK1=>?_
  have P1:=(Ph.start hT).run hK1 hL1 JK
  refine Cw 35 [.tmp 16,.const (D 2)] (some 17) [pt b 0,D 2] ?_
  refine (CE b ns 2 w1 P1.tape (by omega) (by omega)).mono ?_
  rintro e w2 ⟨k,hk,rfl,hT2,hb2⟩
  refine ⟨_,rfl,?_⟩
  have P2:=P1.call hT2 hb2
  refine Am 60 (AE WJ) w2.heap.size _ [] WI [(0,pt b 0),(8,pt (w.heap.size + 1) 0),(9,pt (w.heap.size + 2) 0),(10,D k),(18,pt b 0)] w2.heap.size z1 P2.lies fun w3 E3 hL3 hK3=>?_
  have P3:=P2.run hK3 hL3 JK
  refine Cw 35 [.tmp 18,.const (D 3)] (some 19) [pt b 0,D 3] ?_
  refine (CE b ns 3 w3 P3.tape (by omega) (by omega)).mono ?_
  rintro e w4 ⟨j,hj,rfl,hT4,hb4⟩
  refine ⟨_,rfl,?_⟩
  have P4:=P3.call hT4 hb4
  refine Am 60 (AE WI) w4.heap.size _ [] Rw [(0,pt b 0),(8,pt (w.heap.size + 1) 0),(9,pt (w.heap.size + 2) 0),(10,D k),(11,D (IntKind.i64.wrap (1 + j)))] w4.heap.size z1 P4.lies fun w5 E5 hL5 hK5=>?_
  have P5:=P4.run hK5 hL5 JK
  have hw:IntKind.i64.wrap (1 + (j:Int))=1 + j:=IntWalk.i64_in _ (by omega)
  rw [hw]
  refine Bi (by kernel_rfl) (wu b ns w nm tb tm th td frm) (fun E _=>(iv (E 11)).toNat) ⟨E5,1 + j,k,.slice none 0 0,[],rfl,by omega,by simp; omega,by omega,by simp; omega,fun e he=>(by cases he),P5,World.ownsRow_nil _ _ _ _⟩ ?_
  clear hw P5 hL5 hK5 P4 hT4 hb4 P3 hL3 hK3 P2 hT2 hb2 P1 hL1 hK1
  rintro E wx ⟨E',i,key,v,es,rfl,hi0,hi3,hk0,hk4,hes,Px,hown⟩ again
  obtain ⟨vA,vc,rfl⟩:=Ge hown
  refine Am 60 (Ay Rw) wx.heap.size _ [] Oh ((22,.bool (decide (0 < i))) :: Hp b w key i) wx.heap.size (En w nm tb tm th td frm Fk (.slice vA es.length vc)) Px.lies fun w6 E6 hL6 hK6=>?_
  have P6:=Px.run hK6 hL6 JK
  have O6:=I3 hown hK6
  clear hL6 hK6 Px hown
  refine Cf (decide (0 < i)) (fun ht=>?_) (fun hf=>?_)
  · have hi:0 < i:=by simpa using ht
    refine Am 60 (AG Oh) w6.heap.size _ [] WH (Hp b w key i) w6.heap.size (En w nm tb tm th td frm Fk (.slice vA es.length vc)) P6.lies fun w7 E7 hL7 hK7=>?_
    have P7:=P6.run hK7 hL7 JK
    have O7:=I3 O6 hK7
    clear hL7 hK7 P6 O6
    refine C4 FW 10 ?_
    have C7:N2 b ns w nm tb tm th td frm (.slice vA es.length vc) es w7.drew:=N2.below ⟨P7,O7⟩ (Below.refl _ _).drew
    clear P7 O7
    refine CG (fuel:=3) (L:=Ki b w key (.slice vA es.length vc)) (W:=l5) (C:=N2 b ns w nm tb tm th td frm (.slice vA es.length vc) es) (Ext:=Ae b) (hok:=(wh b w key (.slice vA es.length vc))) C7 (Ae.refl b) (fun _ _ _=>Ae.trans) mT rfl ?_
    intro vals u hC _ hall
    obtain ⟨_,e1,_,_,_,_,⟨x,B,hx,e6,hB,_⟩,_⟩:=hall
    let z0:=Ki b w key (.slice vA es.length vc)
    have r1:Region.ready .any FW ((z0.map (·.idx)).foldl (fun b i=>b.setIfInBounds i true) (Array.replicate 10 false))=[7]:=by kernel_rfl
    have r2:Region.ready .any FW (((z0.map (·.idx)).foldl (fun b i=>b.setIfInBounds i true) (Array.replicate 10 false)).setIfInBounds 7 true)=[8]:=by kernel_rfl
    have r3:Region.ready .any FW ((((z0.map (·.idx)).foldl (fun b i=>b.setIfInBounds i true) (Array.replicate 10 false)).setIfInBounds 7 true).setIfInBounds 8 true)=[9]:=by kernel_rfl
    have r4:Region.ready .any FW (((((z0.map (·.idx)).foldl (fun b i=>b.setIfInBounds i true) (Array.replicate 10 false)).setIfInBounds 7 true).setIfInBounds 8 true).setIfInBounds 9 true)=[]:=by kernel_rfl
    have q26:BN 40 (Eu FW vals (z0.map (·.idx)) (Aw E7 (Hp b w key i))) (.tmp 26)=vals 1:=by kernel_rfl
    have q31:BN 40 (Eu FW vals (z0.map (·.idx)) (Aw E7 (Hp b w key i))) (.tmp 31)=vals 6:=by kernel_rfl
    have qs:(Hp b w key i).map (fun p=>Eu FW vals (z0.map (·.idx)) (Aw E7 (Hp b w key i)) p.1)=(Hp b w key i).map (·.2):=by kernel_rfl
    generalize (z0.map (·.idx)).foldl (fun b i=>b.setIfInBounds i true) (Array.replicate 10 false)=lst at *
    generalize Eu FW vals (z0.map (·.idx)) (Aw E7 (Hp b w key i))=E8 at *
    refine Gs (fuel:=2) r1 (show FW[7]?=some (FW.getD 7 default) by kernel_rfl) (by kernel_rfl) ?_
    obtain ⟨i0,hi0',hz0,hz1,hz2⟩:=info_parts rM
    have hle:(es.length + 1) * 24≤140737488355328:=by omega
    refine wp_append_own u (.tmp 26) (.tmp 31) 27 (by kernel_rfl) (w.heap.size + 3) 97 i0 _ 3 24 (by kernel_rfl) hi0' hz0 hz1 hz2 (by rfl) (by decide) (.slice vA es.length vc) es.length (es.flatMap DZ) (by rw [Cm,q26]; exact (List.cons.inj e1).1) hC.2 ⟨B,0,none⟩ 1 1 (DZ (key,x.1,x.2)) (by rw [Cm,q31]; exact e6) (by rfl) ?_ ?_ (by unfold maxLen; omega) hle ?_ ?_
    · intro jj uu hju
      rw [Addr.add_mid]
      exact H1 (cs:=[D key,D x.1,D x.2]) hB jj uu hju
    · intro uu hu
      simp only [DZ,List.mem_cons,List.not_mem_nil,or_false] at hu
      rcases hu with rfl | rfl | rfl <;> rfl
    · have:=(hC.1.lies.sat.good ⟨w.heap.size + 2,0,LP nm tb tm th td frm (.slice vA es.length vc),34,true⟩ (by simp [En])).1
      simp only at this
      omega
    · intro v' u2 O8 hg8 _
      have P8:=hC.1.grown hg8 (fun g hg=>by
        have h1:=hC.2.lt g hg
        refine ⟨by omega,fun e he=>?_⟩
        simp only [En,List.mem_cons,List.not_mem_nil,or_false] at he
        rcases he with rfl | rfl | rfl <;> simp only <;> omega)
      obtain ⟨wA,wc,rfl⟩:=Ge O8
      rw [show (FW.getD 7 default).dst=some 32 by kernel_rfl,Dy,← Fy qs]
      refine FL (fuel:=1) (FW.getD 8 default) ⟨u2.heap.size,En w nm tb tm th td frm Fk (.slice vA es.length vc),(0,0),[]⟩ ⟨u2.heap.size,En w nm tb tm th td frm Fk (.slice vA es.length vc),(0,0),[]⟩ (.value (.pointer (some ⟨w.heap.size + 2,7,none⟩))) (.pointer (some ⟨w.heap.size + 2,7,none⟩)) r2 (.inl rfl) P8.lies rfl fun u3 hL9 hK9=>?_
      have P9:=P8.run hK9 hL9 JK
      have O9:=I3 O8 hK9
      rw [show (FW.getD 8 default).dst=some 33 by kernel_rfl]
      refine FL (fuel:=0) (FW.getD 9 default) ⟨u3.heap.size,En w nm tb tm th td frm Fk (.slice vA es.length vc),(2,7),[]⟩ ⟨u3.heap.size,En w nm tb tm th td frm Fk (.slice wA (es.length + 1) wc),(2,8),[(w.heap.size + 2,w.heap.size + 2),(7,7)]⟩ .skip undef r3 (.inr ⟨rfl,rfl⟩) ⟨P9.lies.sat,P9.lies.le,P9.lies.own⟩ rfl fun u4 hL10 hK10=>?_
      have P10:=P9.run hK10 hL10 JK
      have O10:=I3 O9 hK10
      rw [show (FW.getD 9 default).dst=none by kernel_rfl]
      refine Cy (hr:=r4) ⟨rfl,At.mid ?_⟩
      clear hL9 hK9 P8 O8 hg8 P9 O9 hL10 hK10 r1 r2 r3 r4 q26 q31 hC C7 hi0' hz0 hz1 hz2 hle
      refine Am 60 (AP WH) u4.heap.size _ [] iw ((34,D key) :: (35,pt b 0) :: Hp b w key i) u4.heap.size (En w nm tb tm th td frm Fk (.slice wA (es.length + 1) wc)) P10.lies fun u5 E11 hL11 hK11=>?_
      have P11:=P10.run hK11 hL11 JK
      have O11:=I3 O10 hK11
      refine Cw 35 [.tmp 35,.const (D 4)] (some 36) [pt b 0,D 4] ?_
      refine (CE b ns 4 u5 P11.tape (by omega) (by omega)).mono ?_
      rintro e u6 ⟨q,hq,rfl,hT12,hb12⟩
      refine ⟨_,rfl,?_⟩
      have P12:=P11.call hT12 hb12
      have O12:u6.ownsRow (w.heap.size + 3) 97 3 (.slice wA (es.length + 1) wc) (es.length + 1) (es.flatMap DZ++DZ (key,x.1,x.2)):=GY O11 (fun g hg=>by
        have h1:=O11.lt g hg
        have h2:=P11.lt
        exact hb12.block g (by omega) (by omega))
      refine Am 60 (AE iw) u6.heap.size _ [] (Aj Rw) (Hp b w (IntKind.i64.wrap (key + IntKind.i64.wrap (1 + q))) (IntKind.i64.wrap (i - 1))) u6.heap.size (En w nm tb tm th td frm Fk (.slice wA (es.length + 1) wc)) P12.lies fun u7 E13 hL13 hK13=>?_
      have P13:=P12.run hK13 hL13 JK
      have O13:=I3 O12 hK13
      have y1:IntKind.i64.wrap (1 + (q:Int))=1 + q:=IntWalk.i64_in _ (by omega)
      have y2:IntKind.i64.wrap (key + (1 + (q:Int)))=key + (1 + q):=IntWalk.i64_in _ (by omega)
      have y3:IntKind.i64.wrap (i - 1)=i - 1:=IntWalk.i64_in _ (by omega)
      rw [y1,y2,y3]
      clear y1 y2 y3
      refine again _ _ ⟨E13,i - 1,key + (1 + q),_,es++[(key,x.1,x.2)],rfl,by omega,by simp; omega,by omega,by simp; omega,fun e he=>?_,P13,?_⟩ ?_
      · rw [List.mem_append,List.mem_singleton] at he
        rcases he with he | rfl
        · exact hes e he
        · exact ⟨hk0,by omega,hx⟩
      · rw [cY,List.length_append]; exact O13
      · show (i - 1).toNat < i.toNat
        omega
  · have hi:i≤0:=by simpa using hf
    refine Am 60 (AL Oh) w6.heap.size _ [(2,0),(1,0)] rY (Hp b w key i) w6.heap.size (En w nm tb tm th td frm (LP nm tb tm th td frm (.slice vA es.length vc)) (.slice vA es.length vc)) P6.lies fun w7 E7 hL7 hK7=>?_
    have P7:=P6.run hK7 hL7 JK
    have O7:=I3 O6 hK7
    refine QE (fn:=Tryz.f32) (by kernel_rfl) (by kernel_rfl) ⟨0,En w nm tb tm th td frm (LP nm tb tm th td frm (.slice vA es.length vc)) (.slice vA es.length vc),(1,0),[]⟩ P7.lies.sat.good (.agg (LP nm tb tm th td frm (.slice vA es.length vc)).toArray) (by kernel_rfl) (by kernel_rfl) ?_
    rw [iZ] at O7
    obtain ⟨A,c,hv,hrows⟩:=Tr O7 (fun r hr=>by obtain ⟨e,_,rfl⟩:=List.mem_map.1 hr; rfl) (by decide)
    rw [List.length_map] at hv
    refine ⟨⟨2,nm,tb,tm,th,td,frm,es,LO,0,0,0⟩,_,⟨⟨rfl,rfl,rfl,rfl,rfl,hes,(show es.length≤3 by omega)⟩,rfl,rfl,rfl,rfl,rfl,rfl⟩,⟨A,c,_,BX.leaf 0 0 0 0 0 0 [] 0 0,hrows.mono (by omega),?_⟩,rfl,P7.tape,P7.but⟩
    rw [hv]
    rfl
end
end
end Go.Proofs.YtmcpjkcggfmcmaaGreatDoor

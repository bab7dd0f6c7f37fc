/-
  Part 21 of a proof: contracts of functions.
-/
import Derived.Test.YtmcpjkcggfmcmaaGreatDoorProg
import Derived.Test.YtmcpjkcggfmcmaaGreatDoorL02
import Derived.Lib.LaidTab
import Derived.Stop.LaidErr
import Derived.Test.YtmcpjkcggfmcmaaGreatDoorCards
import Derived.Test.YtmcpjkcggfmcmaaGreatDoorTie
import Derived.Test.YtmcpjkcggfmcmaaGreatDoorL20
import Derived.Test.YtmcpjkcggfmcmaaGreatDoorL08
import Derived.WalkKit
import Derived.ProofKit
import Derived.OpenShut
import Derived.Deep.DeepHandedRow
import Derived.Lib.SmallJoins
import Derived.Test.YtmcpjkcggfmcmaaGreatDoorL19
set_option linter.all false
namespace Go.Proofs.YtmcpjkcggfmcmaaGreatDoor
noncomputable def KP:List (Option (List Value))→Option (List Value)
 | []=>some []
 | some x :: l=>match KP l with
  | some r=>some (x++r)
  | none=>none
 | none :: _=>none
noncomputable def JE:Nat→List (Nat×Nat)→Nat→Bool
 | o,[],n=>Nat.beq o n
 | o,(off,sz) :: l,n=>Nat.beq off o && JE (o + sz) l n
noncomputable def KG (P:Program):Nat→TypeId→DataW Unit→Option (List Value)
 | 0,_,_=>none
 | fuel + 1,t,d=>match P.underlying t,d with
  | some .bool,.lit (.bool b)=>some [.bool b]
  | some (.int _),.lit (.int k n)=>some [.int k n]
  | some .string,.lit (.string s)=>some [.string ⟨⟨s⟩⟩]
  | some (.struct fs),.agg ds=>match JE 0 (fs.toList.map fun f=>(f.offset,P.cellsOf f.type)) (P.cellsOf t) with
   | true=>KP ((fs.toList.zip ds).map fun x=>KG P fuel x.1.type x.2)
   | false=>none
  | some (.array n e),.agg ds=>match Nat.beq (n * P.cellsOf e) (P.cellsOf t) with
   | true=>KP (ds.map fun x=>KG P fuel e x)
   | false=>none
  | _,_=>none
theorem N9 {x:Option (List Value)} {l:List (Option (List Value))} {r:List Value} (h:KP (x :: l)=some r):∃ a b,x=some a∧KP l=some b∧r=a++b:=by
 cases x with
 | none=>cases h
 | some a=>
  unfold KP at h
  split at h
  ·rename_i b hb; exact ⟨a,b,rfl,hb,(Option.some.inj h).symm⟩
  ·cases h
theorem Im (cs:List Value) (o m n:Nat):(cs.drop o).take (m + n)=(cs.drop o).take m++(cs.drop (o + m)).take n:=by
 rw [List.take_add,List.drop_drop]
theorem N5 {P:Program} {w:World} {base:Nat} {sp:Nat→Bool} {enc:TypeId×Value→Unit}:∀ (k fuel:Nat) (t:TypeId) (cs:List Value) (d:DataW Unit) (p:List MemPlace) (xs:List Value),DataW.trod enc P w base sp false fuel t cs=some (d,p)→KG P k t d=some xs→cs=xs
 | 0,_,_,_,_,_,_,_,h=>by cases h
 | k + 1,0,_,_,_,_,_,h,_=>by cases h
 | k + 1,fuel + 1,t,cs,d,p,xs,h,hf=>by
  have ih:=N5 (P:=P) (w:=w) (base:=base) (sp:=sp) (enc:=enc) k fuel
  unfold KG at hf
  split at hf
  ·rename_i b hu
   simp only [DataW.trod,hu] at h
   obtain rfl:=Option.some.inj hf
   split at h <;> simp_all
  ·rename_i k1 k2 n hu
   simp only [DataW.trod,hu] at h
   obtain rfl:=Option.some.inj hf
   split at h <;> simp_all
  ·rename_i s hu
   simp only [DataW.trod,hu] at h
   obtain rfl:=Option.some.inj hf
   split at h <;> simp_all
   obtain ⟨h1,h2,_⟩:=h
   subst h2
   rfl
  ·rename_i fs ds hu
   simp only [DataW.trod,hu] at h
   split at hf
   ·rename_i hp
    split at h
    ·rename_i hl
     rw [Option.map_eq_some_iff] at h
     obtain ⟨ys,hy,he⟩:=h
     simp only [Prod.mk.injEq,DataW.agg.injEq] at he
     obtain ⟨rfl,_⟩:=he
     have key:∀ (l:List Field) (ys:List (DataW Unit×List MemPlace)) (o:Nat) (r:List Value),l.mapM (fun f=>DataW.trod enc P w base sp false fuel f.type ((cs.drop f.offset).take (P.cellsOf f.type)))=some ys→JE o (l.map fun f=>(f.offset,P.cellsOf f.type)) (P.cellsOf t)=true→KP ((l.zip (ys.map (·.1))).map fun x=>KG P k x.1.type x.2)=some r→o≤P.cellsOf t∧(cs.drop o).take (P.cellsOf t - o)=r:=by
      intro l
      induction l with
      | nil=>
       intro ys o r h1 h2 h3
       have:o=P.cellsOf t:=Nat.eq_of_beq_eq_true h2
       subst this
       obtain rfl:=Option.some.inj h3
       exact ⟨Nat.le_refl _,by simp⟩
      | cons f l ihl=>
       intro ys o r h1 h2 h3
       simp only [List.mapM_cons,Option.bind_eq_bind,Option.bind_eq_some_iff,Option.pure_def,Option.some.injEq] at h1
       obtain ⟨y,hy1,ys',hy2,rfl⟩:=h1
       unfold JE at h2
       simp only [List.map_cons,Bool.and_eq_true] at h2
       have ho:f.offset=o:=Nat.eq_of_beq_eq_true h2.1
       simp only [List.map_cons,List.zip_cons_cons] at h3
       obtain ⟨a,b,q1,q2,rfl⟩:=N9 h3
       obtain ⟨g1,g2⟩:=ihl ys' (o + P.cellsOf f.type) b hy2 h2.2 q2
       have hya:=ih f.type _ y.1 y.2 a hy1 q1
       refine ⟨by omega,?_⟩
       rw [show P.cellsOf t - o=P.cellsOf f.type + (P.cellsOf t - (o + P.cellsOf f.type)) by omega,Im,g2,← hya,ho]
     obtain ⟨_,g⟩:=key fs.toList ys 0 xs hy hp hf
     rw [← g,Nat.sub_zero,List.drop_zero,← hl,List.take_length]
    ·cases h
   ·cases hf
  ·rename_i n e ds hu
   simp only [DataW.trod,hu] at h
   split at hf
   ·rename_i hp
    have hp':n * P.cellsOf e=P.cellsOf t:=Nat.eq_of_beq_eq_true hp
    split at h
    ·rename_i hl
     rw [Option.map_eq_some_iff] at h
     obtain ⟨ys,hy,he⟩:=h
     simp only [Prod.mk.injEq,DataW.agg.injEq] at he
     obtain ⟨rfl,_⟩:=he
     have key:∀ (m o:Nat) (ys:List (DataW Unit×List MemPlace)) (r:List Value),(List.range' o m).mapM (fun i=>DataW.trod enc P w base sp false fuel e ((cs.drop (i * P.cellsOf e)).take (P.cellsOf e)))=some ys→KP ((ys.map (·.1)).map fun x=>KG P k e x)=some r→(cs.drop (o * P.cellsOf e)).take (m * P.cellsOf e)=r:=by
      intro m
      induction m with
      | zero=>
       intro o ys r h1 h3
       simp at h1
       subst h1
       obtain rfl:=Option.some.inj h3
       simp
      | succ m ihm=>
       intro o ys r h1 h3
       rw [List.range'_succ] at h1
       simp only [List.mapM_cons,Option.bind_eq_bind,Option.bind_eq_some_iff,Option.pure_def,Option.some.injEq] at h1
       obtain ⟨y,hy1,ys',hy2,rfl⟩:=h1
       simp only [List.map_cons] at h3
       obtain ⟨a,b,q1,q2,rfl⟩:=N9 h3
       have g2:=ihm (o + 1) ys' b hy2 q2
       have hya:=ih e _ y.1 y.2 a hy1 q1
       rw [show (m + 1) * P.cellsOf e=P.cellsOf e + m * P.cellsOf e by rw [Nat.add_mul]; omega,Im,← hya]
       rw [show o * P.cellsOf e + P.cellsOf e=(o + 1) * P.cellsOf e by rw [Nat.add_mul]; omega,g2]
     have g:=key n 0 ys xs (by rw [← List.range_eq_range']; exact hy) hf
     rw [← g,Nat.zero_mul,List.drop_zero,hp',← hl,List.take_length]
    ·cases h
   ·cases hf
  ·cases hf
theorem XP {P:Program} {W:World} {name:String} {d:DataW Unit} {rest:List (String×DataW Unit)} (k:Nat) {g:Nat} {t:TypeId} {xs:List Value} (hg:P.globalNamed name=some g) (hty:(P.globals[g]?).map (·.type)=some t) (hf:KG P k t d=some xs) (h:laidMet P ((name,d) :: rest) W):∀ j v,xs[j]?=some v→W.cell? ⟨g,j,none⟩=some v:=by
 obtain ⟨ps,hv,_,_⟩:=h
 obtain ⟨g',t',cs,fuel,p,q,h1,h2,h3,h4,_,_⟩:=hv
 rw [hg] at h1
 obtain rfl:=Option.some.inj h1
 rw [hty] at h2
 obtain rfl:=Option.some.inj h2
 have hx:=N5 k fuel t cs.toList d p xs h4 hf
 unfold World.var? at h3
 rw [hg] at h3
 simp only [Option.bind_some] at h3
 split at h3
 ·rename_i C T fr hb
  obtain rfl:=Option.some.inj h3
  intro j v hj
  unfold World.cell?
  simp only [hb]
  rw [← hx] at hj
  simpa using hj
 ·cases h3
end Go.Proofs.YtmcpjkcggfmcmaaGreatDoor
namespace Go.Proofs.YtmcpjkcggfmcmaaGreatDoor
open Go.ChangeShapes Go.WideShapes Go.ChangeAt Go.RowKit
theorem Rd:ownKnob Tryz.prog.godebug=none:=by kernel_rfl
def ac:DataW Unit→List Value
 | .lit (.int k n)=>[.int k n]
 | .lit (.string s)=>[.string ⟨s.toArray⟩]
 | .agg xs=>xs.flatMap fun
  | .lit (.int k n)=>[.int k n]
  | .lit (.string s)=>[.string ⟨s.toArray⟩]
  | .agg ys=>ys.flatMap fun
   | .lit (.int k n)=>[.int k n]
   | .lit (.string s)=>[.string ⟨s.toArray⟩]
   | _=>[]
  | _=>[]
 | _=>[]
def setRow (cs:Array Value):Obj→Obj
 | .cells _ t frozen=>.cells cs t frozen
 | o=>o
section
variable {H:Type} {enc:TypeId×Value→H} {P:Program}
theorem OL {f:Func} {s:ChangeSpec} {apart fresh handsOn again:Bool} {W W':World} {args:Array Value} {v:Value} {ds gs:List (DataW H)} {before pa pv:List MemPlace}
  (hW:DataW.Whole enc P f.params.toList s.vars apart W args.toList ds gs before)
  (hres:∀ (b:Nat) (sp:Nat→Bool) (hd:Bool),DataW.TrodAll enc P W' b sp hd f.resultTypes.toList (v.resultList f.resultTypes.size) (s.fn H (ds++gs)).results [])
  (hargs:∀ sp:Nat→Bool,(∀ p∈before,sp p.block=true)→DataW.TrodAll enc P W' 0 sp true f.params.toList args.toList (s.fn H (ds++gs)).args pa)
  (hvars:∀ sp:Nat→Bool,(∀ p∈before,sp p.block=true)→DataW.TrodVars enc P W' sp s.vars (s.fn H (ds++gs)).vars pv)
  (hps:before=pa++pv) (hb:Below W.heap.size W W')
  (hok:∀ (j:Nat) (t:TypeId) (r:Value),f.resultTypes[j]?=some t→(v.resultList f.resultTypes.size)[j]?=some r→Value.okWide P W' .any 0 t r) :
  s.post enc P f apart fresh handsOn again W args v W':=by
 have hlt:∀ p∈before,p.block < W.heap.size:=fun p hp=>hW.lt p hp
 have hold:∀ p∈before,(fun b=>decide (b < W.heap.size)) p.block=true:=fun p hp=>by simpa using hlt p hp
 refine ⟨ds,gs,before,[],pa,pv,hW,hres _ _ _,hargs _ hold,hvars _ hold,World.keptBut_mono (fun p hp=>⟨hp,?_⟩) (hb.frame (·∈before)),fun _=>?_⟩
 ·rw [hps,List.mem_append] at hp
  exact Or.inr hp
 ·obtain ⟨_,_,_,_,_,hz,hn⟩:=hW
  refine ⟨hok,_,_,([]++pa)++pv,⟨[]++pa,pv,trodAll_append (hargs _ (fun _ _=>rfl)) (hres _ _ _),hvars _ (fun _ _=>rfl),rfl,?_,?_⟩,?_⟩
  ·intro b off hp
   have hin:MemPlace.cell b off∈before:=by rw [hps]; simpa using hp
   rw [hb.frozen (hlt _ hin)]
   exact hz b off hin
  ·intro ha
   have:=hn ha
   rw [hps] at this
   simpa using this
  ·intro p hp _
   rw [hps]
   simpa using hp
end
noncomputable def j9 (h:Array Obj) (x:String×DataW Unit):Array Obj:=
 match Tryz.prog.globalNamed x.1 with
 | some g=>h.modify g (setRow (ac x.2).toArray)
 | none=>h
theorem kC:Tryz.prog.globalNamed "payroll/compiler.instructionNames"=some 0:=by kernel_rfl
theorem Ve:(Tryz.prog.globals[0]?).map (·.type)=some 156:=by kernel_rfl
theorem XX:KG Tryz.prog 4 156 Rows.laid_payroll_compiler_instructionNames=some Hz:=by kernel_rfl
theorem aX {W:World} {rest:List (String×DataW Unit)} (h:laidMet Tryz.prog (("payroll/compiler.instructionNames",Rows.laid_payroll_compiler_instructionNames) :: rest) W):∀ j v,Hz[j]?=some v→W.cell? ⟨0,j,none⟩=some v:=
 XP 4 kC Ve XX h
theorem Rb {W:World} {rest:List (String×DataW Unit)} (h:laidMet Tryz.prog (("payroll/compiler.instructionNames",Rows.laid_payroll_compiler_instructionNames) :: rest) W):FT W:=aX h
end Go.Proofs.YtmcpjkcggfmcmaaGreatDoor
namespace Go.Proofs.YtmcpjkcggfmcmaaGreatDoor
noncomputable section
open Go.RowKit
set_option maxRecDepth 100000
set_option maxHeartbeats 1000000
attribute [local irreducible] BD Bb AF AG AL A4 Ai AO BO CV Di CC Bp At Fr
def Cn (ds:List (Df)) (p1:Int):List (Df)→Nat→List Nat→List Nat
 | [],i0,a0_0=>a0_0
 | e0 :: tl,i0,a0_0=>cond (cond (cond (e0.kind == 1) (true) (e0.kind == 5)) (true) (cond (decide (e0.frm≤p1)) (!(EM ds p1 i0)) (false))) (Cn ds p1 tl (i0 + 1) (a0_0++[i0])) (Cn ds p1 tl (i0 + 1) a0_0)
theorem Nj {ds:List (Df)} {p1:Int} {i0:Nat} {a0_0:List Nat}:Cn ds p1 [] i0 a0_0=(a0_0):=by rw [Cn]
theorem NC {ds:List (Df)} {p1:Int} {a0_0:List Nat} {es:List (Df)} (i0:Nat) (e0:Df) (hi:es[i0]?=some e0):Cn ds p1 (es.drop i0) i0 a0_0=(cond (cond (cond (e0.kind == 1) (true) (e0.kind == 5)) (true) (cond (decide (e0.frm≤p1)) (!(EM ds p1 i0)) (false))) (Cn ds p1 (es.drop (i0 + 1)) (i0 + 1) (a0_0++[i0])) (Cn ds p1 (es.drop (i0 + 1)) (i0 + 1) a0_0)):=by
 have hl:i0 < es.length:=(List.getElem?_eq_some_iff.1 hi).1
 have he:es[i0]=e0:=(List.getElem?_eq_some_iff.1 hi).2
 rw [← List.getElem_cons_drop hl,Cn] <;> (try rw [he])
def Aw (ds:List (Df)) (p1:Int):List Nat:=Cn ds p1 ds 0 ([])
noncomputable def YO:Code:=Tryz.f90.body.getD .skip
def UY:List Item:=AB 60 ([.code YO])
def UX:List Item:=AB 60 (A4 UY)
def jL:List Item:=AB (As Ae 90 (AG UX)) (AG UX)
def jK:List Item:=Ac 5 (AF (AF jL))
def aA:List Item:=AB 60 (AO jK)
def jJ:List Item:=AB (As BK 90 (AG aA)) (AG aA)
def og:List Item:=AB 60 (AL UX)
theorem NB (p0a:List UInt8) (p0bA:Option Addr) (ds:List (Df)) (p0bc:Nat) (p1:Int) (w:World) (h_ds:rowsDf w p0bA ds) (hl_ds:ds.length≤4294967296):Calls Tryz.prog 90 ([.agg ⟨[.string ⟨⟨p0a⟩⟩,.slice p0bA ds.length p0bc]⟩,.int .i64 p1]:List Value).toArray w fun e w'=>∃ (rA0:Option Addr) (rc0:Nat),e=.returned (.slice rA0 ((Aw ds p1).length) rc0)∧Below w.heap.size w w'∧AY w.heap.size w' [BE rA0 rc0 (Aw ds p1)]:=by
 refine Ab (fn:=Tryz.f90) (c:=YO) (n:=43) ?_
 have K1:=Wk.start w
 refine BF UY K1 [(0,1)] fun w1 K2=>?_
 have K3:Wk w w1 [⟨w.heap.size,0,[.string ⟨⟨p0a⟩⟩,.slice p0bA ds.length p0bc],38,true⟩] [] []:=K2.pk [0] []
 have K4:=K3.addNil 3 1 (fun e r=>r=Eb e)
 have hv0:(Aw ds p1)=Cn ds p1 ds 0 ([]):=by unfold Aw; rfl
 refine Ax [(1,.int .i64 p1),(2,.pointer (some ⟨w.heap.size,0,none⟩)),(4,.slice none 0 0),(5,.slice none 0 0),(9,.slice p0bA ds.length p0bc),(10,.int .i64 ((ds.length:Int))),(11,.int .i64 (((0:Nat):Int)))] fun E2=>?_
 refine Bj (by kernel_rfl) (fun E wx0=>∃ (i0:Nat) (a0_0:List Nat) (a0_0A:Option Addr) (a0_0c:Nat) (E0:Nat→Value),i0≤ds.length∧E=CX E0 [(1,.int .i64 p1),(2,.pointer (some ⟨w.heap.size,0,none⟩)),(4,.slice none 0 0),(5,.slice a0_0A a0_0.length a0_0c),(9,.slice p0bA ds.length p0bc),(10,.int .i64 ((ds.length:Int))),(11,.int .i64 ((i0:Int)))]∧(Aw ds p1)=Cn ds p1 (List.drop i0 ds) i0 a0_0∧a0_0.length≤1 * i0 + 0∧Wk w wx0 [⟨w.heap.size,0,[.string ⟨⟨p0a⟩⟩,.slice p0bA ds.length p0bc],38,true⟩] [(BE a0_0A a0_0c a0_0)] []) (fun E _=>ds.length - AQ (E 11)) ⟨0,([]),none,0,E2,Nat.zero_le _,rfl,hv0,by simp,K4⟩ ?_
 clear hv0
 rintro E wx0 ⟨i0,a0_0,a0_0A,a0_0c,E0,hi0,rfl,hv0,hb0_0,K5⟩ hagain0
 refine AC UX K5 [] fun w4 K6=>?_
 refine AK (decide ((i0:Int) < (ds.length:Int))) (fun c5=>?_) (fun c5=>?_)
 ·have hlt0:i0 < ds.length:=by have:=of_decide_eq_true c5; omega
  obtain ⟨e0,he0⟩:∃ e,ds[i0]?=some e:=⟨_,List.getElem?_eq_getElem hlt0⟩
  rw [NC i0 e0 he0] at hv0
  obtain ⟨gB0,fB0,rfl,hB0g,hB0a⟩:=h_ds.all (by omega)
  obtain ⟨aE0_0,cE0_0,aE0_1,cE0_1,hr0_,hE0_0,hE0_1⟩:=hB0a i0 _ he0
  refine BA Ae jL K6 [] fun w6 K7=>?_
  refine BB (g:=gB0) (off:=fB0) (cap:=p0bc) (sz:=21) (k:=i0) (len:=ds.length) (some 14) hlt0 Tryz.underlying36 ?_
  refine Bc 34 gB0 (fB0 + i0 * 21) [.int .i64 e0.kind,.string ⟨⟨e0.name⟩⟩,.bool (e0.tb),.int .i64 e0.tm,.int .i64 e0.th,.int .i64 e0.td,.int .i64 e0.frm,.slice aE0_0 e0.ents.length cE0_0,.int .i64 e0.body.op,.int .i64 e0.body.num,.int .i64 e0.body.den,.int .i64 e0.body.mu,.int .i64 e0.body.hu,.int .i64 e0.body.du,.string ⟨⟨e0.body.nm⟩⟩,.int .i64 e0.body.cnt,.int .i64 e0.body.md,.slice aE0_1 e0.body.ks.length cE0_1,.int .i64 e0.mode,.int .i64 e0.num,.int .i64 e0.den] (some 15) (Af hr0_ hB0g K7.B) ?_
  refine Bw 5 jK [⟨w.heap.size,0,[.string ⟨⟨p0a⟩⟩,.slice (some ⟨gB0,fB0,none⟩) ds.length p0bc],38,true⟩,⟨w6.heap.size,0,(Be e0 aE0_0 cE0_0 aE0_1 cE0_1),34,true⟩] K7 [(1,0)] fun w7 K8=>?_
  refine Aj K8 [(1,1,0),(5,1,0),(10,1,6),(14,0,0)] [⟨17,[(30,.agg ⟨[.string ⟨⟨p0a⟩⟩,.slice (some ⟨gB0,fB0,none⟩) ds.length p0bc]⟩),(31,.int .i64 p1),(32,.int .i64 ((i0:Int)))],.bool (EM ds p1 i0),((decide (e0.frm≤p1))) && ((!(cond (e0.kind == 1) (true) (e0.kind == 5))) && (true))⟩] K8.G (fun sp hsp=>?_) fun w8 E8 K9=>?_
  ·rw [List.mem_singleton.1 hsp]
   exact AR 126 [.tmp 30,.tmp 31,.tmp 32] [.agg ⟨[.string ⟨⟨p0a⟩⟩,.slice (some ⟨gB0,fB0,none⟩) ds.length p0bc]⟩,.int .i64 p1,.int .i64 ((i0:Int))] (fun _=>by kernel_rfl) fun hc u hu=>AP hu (QK _ _ ds _ p1 i0 u (h_ds.below (K8.B.trans (hu.mono K8.B.size))) hl_ds (by omega))
  refine AC aA K9 [] fun w9 K10=>?_
  refine AK (cond (cond (e0.kind == 1) (true) (e0.kind == 5)) (true) (cond (decide (e0.frm≤p1)) (!(EM ds p1 i0)) (false))) (fun c10=>?_) (fun c10=>?_)
  ·refine CA BK jJ [⟨w.heap.size,0,[.string ⟨⟨p0a⟩⟩,.slice (some ⟨gB0,fB0,none⟩) ds.length p0bc],38,true⟩,⟨w6.heap.size,0,(Be e0 aE0_0 cE0_0 aE0_1 cE0_1),34,true⟩,⟨w9.heap.size,0,[.int .i64 ((i0:Int))],3,true⟩] K10 [] fun w11 K11=>?_
   refine CF K11.H (K11.ix 0) (K11.at 0 rfl) i0 [.int .i64 ((i0:Int))] rfl (w9.heap.size) (K11.ent 2 (by kernel_rfl)) (Ck jJ) (by kernel_rfl) (.tmp 37) (.tmp 39) 56 (by kernel_rfl) (by kernel_rfl) (by kernel_rfl) (by decide) (by kernel_rfl) (by kernel_rfl) rfl rfl (by ((try simp only [maxLen,List.length_append,List.length_cons,List.length_nil,List.length_singleton]) <;> omega)) fun A12 c12 w12 Hn b12=>?_
   have K12:=K11.put 0 (by simp) b12 Hn
   refine AC (Ai UY) K12 [] fun w13 K13=>?_
   refine Ax [(1,.int .i64 p1),(2,.pointer (some ⟨w.heap.size,0,none⟩)),(4,.slice none 0 0),(5,.slice A12 ((a0_0++[i0]).length) c12),(9,.slice (some ⟨gB0,fB0,none⟩) ds.length p0bc),(10,.int .i64 ((ds.length:Int))),(11,.int .i64 (IntKind.i64.wrap ((i0:Int) + 1)))] fun E14=>?_
   have K14:Wk w w13 [⟨w.heap.size,0,[.string ⟨⟨p0a⟩⟩,.slice (some ⟨gB0,fB0,none⟩) ds.length p0bc],38,true⟩] [(BE A12 c12 (a0_0++[i0]))] []:=K13.pk [0] [0]
   rw [Bf i0 (by omega)]
   refine hagain0 _ _ ⟨i0 + 1,(a0_0++[i0]),A12,c12,E14,hlt0,rfl,by rw [hv0,c10] <;> rfl,by ((try simp only [maxLen,List.length_append,List.length_cons,List.length_nil,List.length_singleton]) <;> omega),K14⟩ ?_
   show ds.length - AQ (.int .i64 ((i0 + 1:Nat):Int)) < ds.length - AQ (.int .i64 (i0:Int))
   simp only [AQ]
   omega
  ·refine AC (Ai UY) K10 [] fun w15 K15=>?_
   refine Ax [(1,.int .i64 p1),(2,.pointer (some ⟨w.heap.size,0,none⟩)),(4,.slice none 0 0),(5,.slice a0_0A a0_0.length a0_0c),(9,.slice (some ⟨gB0,fB0,none⟩) ds.length p0bc),(10,.int .i64 ((ds.length:Int))),(11,.int .i64 (IntKind.i64.wrap ((i0:Int) + 1)))] fun E16=>?_
   have K16:Wk w w15 [⟨w.heap.size,0,[.string ⟨⟨p0a⟩⟩,.slice (some ⟨gB0,fB0,none⟩) ds.length p0bc],38,true⟩] [(BE a0_0A a0_0c a0_0)] []:=K15.pk [0] [0]
   rw [Bf i0 (by omega)]
   refine hagain0 _ _ ⟨i0 + 1,a0_0,a0_0A,a0_0c,E16,hlt0,rfl,by rw [hv0,c10] <;> rfl,by ((try simp only [maxLen,List.length_append,List.length_cons,List.length_nil,List.length_singleton]) <;> omega),K16⟩ ?_
   show ds.length - AQ (.int .i64 ((i0 + 1:Nat):Int)) < ds.length - AQ (.int .i64 (i0:Int))
   simp only [AQ]
   omega
 ·have hie0:i0=ds.length:=by have:=of_decide_eq_false c5; omega
  rw [hie0,List.drop_length,Nj] at hv0
  refine AC og K6 [] fun w17 K17=>?_
  have hS:(Aw ds p1)=a0_0:=by rw [hv0] <;> rfl
  exact Aa K17 (0,0) (.slice a0_0A a0_0.length a0_0c) ⟨a0_0A,a0_0c,by rw [hS] <;> rfl,K17.B,by rw [hS]; exact K17.own0 [0] rfl (by decide)⟩
end
end Go.Proofs.YtmcpjkcggfmcmaaGreatDoor

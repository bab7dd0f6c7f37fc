/-
  Part 23 of a proof: contracts of functions.
-/
import Derived.Test.YtmcpjkcggfmcmaaGreatDoorProg
import Derived.Test.YtmcpjkcggfmcmaaGreatDoorD02
import Derived.Lib.LaidTab
import Derived.Stop.LaidErr
import Derived.Test.YtmcpjkcggfmcmaaGreatDoorCards
import Derived.Test.YtmcpjkcggfmcmaaGreatDoorTie
import Derived.Test.YtmcpjkcggfmcmaaGreatDoorD22
import Derived.Test.YtmcpjkcggfmcmaaGreatDoorD09
import Derived.WalkKit
import Derived.ProofKit
import Derived.OpenShut
import Derived.Deep.DeepHandedRow
import Derived.Lib.SmallJoins
import Derived.Test.YtmcpjkcggfmcmaaGreatDoorD21
set_option linter.all false
namespace Go.Proofs.YtmcpjkcggfmcmaaGreatDoor
noncomputable def M4:List (Option (List Value))→Option (List Value)
 | []=>some []
 | some x :: l=>match M4 l with
  | some r=>some (x++r)
  | none=>none
 | none :: _=>none
noncomputable def Lj:Nat→List (Nat×Nat)→Nat→Bool
 | o,[],n=>Nat.beq o n
 | o,(off,sz) :: l,n=>Nat.beq off o && Lj (o + sz) l n
noncomputable def My (P:Program):Nat→TypeId→DataW Unit→Option (List Value)
 | 0,_,_=>none
 | fuel + 1,t,d=>match P.underlying t,d with
  | some .bool,.lit (.bool b)=>some [.bool b]
  | some (.int _),.lit (.int k n)=>some [.int k n]
  | some .string,.lit (.string s)=>some [.string ⟨⟨s⟩⟩]
  | some (.struct fs),.agg ds=>match Lj 0 (fs.toList.map fun f=>(f.offset,P.cellsOf f.type)) (P.cellsOf t) with
   | true=>M4 ((fs.toList.zip ds).map fun x=>My P fuel x.1.type x.2)
   | false=>none
  | some (.array n e),.agg ds=>match Nat.beq (n * P.cellsOf e) (P.cellsOf t) with
   | true=>M4 (ds.map fun x=>My P fuel e x)
   | false=>none
  | _,_=>none
theorem RJ {x:Option (List Value)} {l:List (Option (List Value))} {r:List Value} (h:M4 (x :: l)=some r):∃ a b,x=some a∧M4 l=some b∧r=a++b:=by
 cases x with
 | none=>cases h
 | some a=>
  unfold M4 at h
  split at h
  ·rename_i b hb; exact ⟨a,b,rfl,hb,(Option.some.inj h).symm⟩
  ·cases h
theorem Kz (cs:List Value) (o m n:Nat):(cs.drop o).take (m + n)=(cs.drop o).take m++(cs.drop (o + m)).take n:=by
 rw [List.take_add,List.drop_drop]
theorem RF {P:Program} {w:World} {base:Nat} {sp:Nat→Bool} {enc:TypeId×Value→Unit}:∀ (k fuel:Nat) (t:TypeId) (cs:List Value) (d:DataW Unit) (p:List MemPlace) (xs:List Value),DataW.trod enc P w base sp false fuel t cs=some (d,p)→My P k t d=some xs→cs=xs
 | 0,_,_,_,_,_,_,_,h=>by cases h
 | k + 1,0,_,_,_,_,_,h,_=>by cases h
 | k + 1,fuel + 1,t,cs,d,p,xs,h,hf=>by
  have ih:=RF (P:=P) (w:=w) (base:=base) (sp:=sp) (enc:=enc) k fuel
  unfold My at hf
  split at hf
  ·rename_i b hu
   simp only [DataW.trod,hu] at h
   obtain rfl:=Option.some.inj hf
   split at h <;> simp_all
  ·rename_i k1 k2 n hu
   simp only [DataW.trod,hu] at h
   obtain rfl:=Option.some.inj hf
   split at h <;> simp_all
  ·rename_i s hu
   simp only [DataW.trod,hu] at h
   obtain rfl:=Option.some.inj hf
   split at h <;> simp_all
   obtain ⟨j,h2,_⟩:=h
   subst h2
   rfl
  ·rename_i fs ds hu
   simp only [DataW.trod,hu] at h
   split at hf
   ·rename_i hp
    split at h
    ·rename_i hl
     rw [Option.map_eq_some_iff] at h
     obtain ⟨c,hy,he⟩:=h
     simp only [Prod.mk.injEq,DataW.agg.injEq] at he
     obtain ⟨rfl,_⟩:=he
     have key:∀ (l:List Field) (c:List (DataW Unit×List MemPlace)) (o:Nat) (r:List Value),l.mapM (fun f=>DataW.trod enc P w base sp false fuel f.type ((cs.drop f.offset).take (P.cellsOf f.type)))=some c→Lj o (l.map fun f=>(f.offset,P.cellsOf f.type)) (P.cellsOf t)=true→M4 ((l.zip (c.map (·.1))).map fun x=>My P k x.1.type x.2)=some r→o≤P.cellsOf t∧(cs.drop o).take (P.cellsOf t - o)=r:=by
      intro l
      induction l with
      | nil=>
       intro c o r j h2 q
       have:o=P.cellsOf t:=Nat.eq_of_beq_eq_true h2
       subst this
       obtain rfl:=Option.some.inj q
       exact ⟨Nat.le_refl _,by simp⟩
      | cons f l ihl=>
       intro c o r j h2 q
       simp only [List.mapM_cons,Option.bind_eq_bind,Option.bind_eq_some_iff,Option.pure_def,Option.some.injEq] at j
       obtain ⟨y,a0,u,z,rfl⟩:=j
       unfold Lj at h2
       simp only [List.map_cons,Bool.and_eq_true] at h2
       have ho:f.offset=o:=Nat.eq_of_beq_eq_true h2.1
       simp only [List.map_cons,List.zip_cons_cons] at q
       obtain ⟨a,b,q1,q2,rfl⟩:=RJ q
       obtain ⟨g1,g2⟩:=ihl u (o + P.cellsOf f.type) b z h2.2 q2
       have v:=ih f.type _ y.1 y.2 a a0 q1
       refine ⟨by omega,?_⟩
       rw [show P.cellsOf t - o=P.cellsOf f.type + (P.cellsOf t - (o + P.cellsOf f.type)) by omega,Kz,g2,← v,ho]
     obtain ⟨_,g⟩:=key fs.toList c 0 xs hy hp hf
     rw [← g,Nat.sub_zero,List.drop_zero,← hl,List.take_length]
    ·cases h
   ·cases hf
  ·rename_i n e ds hu
   simp only [DataW.trod,hu] at h
   split at hf
   ·rename_i hp
    have b0:n * P.cellsOf e=P.cellsOf t:=Nat.eq_of_beq_eq_true hp
    split at h
    ·rename_i hl
     rw [Option.map_eq_some_iff] at h
     obtain ⟨c,hy,he⟩:=h
     simp only [Prod.mk.injEq,DataW.agg.injEq] at he
     obtain ⟨rfl,_⟩:=he
     have key:∀ (m o:Nat) (c:List (DataW Unit×List MemPlace)) (r:List Value),(List.range' o m).mapM (fun i=>DataW.trod enc P w base sp false fuel e ((cs.drop (i * P.cellsOf e)).take (P.cellsOf e)))=some c→M4 ((c.map (·.1)).map fun x=>My P k e x)=some r→(cs.drop (o * P.cellsOf e)).take (m * P.cellsOf e)=r:=by
      intro m
      induction m with
      | zero=>
       intro o c r j q
       simp at j
       subst j
       obtain rfl:=Option.some.inj q
       simp
      | succ m ihm=>
       intro o c r j q
       rw [List.range'_succ] at j
       simp only [List.mapM_cons,Option.bind_eq_bind,Option.bind_eq_some_iff,Option.pure_def,Option.some.injEq] at j
       obtain ⟨y,a0,u,z,rfl⟩:=j
       simp only [List.map_cons] at q
       obtain ⟨a,b,q1,q2,rfl⟩:=RJ q
       have g2:=ihm (o + 1) u b z q2
       have v:=ih e _ y.1 y.2 a a0 q1
       rw [show (m + 1) * P.cellsOf e=P.cellsOf e + m * P.cellsOf e by rw [Nat.add_mul]; omega,Kz,← v]
       rw [show o * P.cellsOf e + P.cellsOf e=(o + 1) * P.cellsOf e by rw [Nat.add_mul]; omega,g2]
     have g:=key n 0 c xs (by rw [← List.range_eq_range']; exact hy) hf
     rw [← g,Nat.zero_mul,List.drop_zero,b0,← hl,List.take_length]
    ·cases h
   ·cases hf
  ·cases hf
theorem cJ {P:Program} {W:World} {name:String} {d:DataW Unit} {b:List (String×DataW Unit)} (k:Nat) {g:Nat} {t:TypeId} {xs:List Value} (hg:P.globalNamed name=some g) (c:(P.globals[g]?).map (·.type)=some t) (hf:My P k t d=some xs) (h:laidMet P ((name,d) :: b) W):∀ j v,xs[j]?=some v→W.cell? ⟨g,j,none⟩=some v:=by
 obtain ⟨n,hv,_,_⟩:=h
 obtain ⟨o,m,cs,fuel,p,q,f,h2,a,l,_,_⟩:=hv
 rw [hg] at f
 obtain rfl:=Option.some.inj f
 rw [c] at h2
 obtain rfl:=Option.some.inj h2
 have i:=RF k fuel t cs.toList d p xs l hf
 unfold World.var? at a
 rw [hg] at a
 simp only [Option.bind_some] at a
 split at a
 ·rename_i C T fr hb
  obtain rfl:=Option.some.inj a
  intro j v e
  unfold World.cell?
  simp only [hb]
  rw [← i] at e
  simpa using e
 ·cases a
end Go.Proofs.YtmcpjkcggfmcmaaGreatDoor
namespace Go.Proofs.YtmcpjkcggfmcmaaGreatDoor
open Go.ChangeShapes Go.WideShapes Go.ChangeAt Go.RowKit
theorem VK:ownKnob Tryz.prog.godebug=none:=by kernel_rfl
def iN:DataW Unit→List Value
 | .lit (.int k n)=>[.int k n]
 | .lit (.string s)=>[.string ⟨s.toArray⟩]
 | .agg xs=>xs.flatMap fun
  | .lit (.int k n)=>[.int k n]
  | .lit (.string s)=>[.string ⟨s.toArray⟩]
  | .agg ys=>ys.flatMap fun
   | .lit (.int k n)=>[.int k n]
   | .lit (.string s)=>[.string ⟨s.toArray⟩]
   | _=>[]
  | _=>[]
 | _=>[]
def setRow (cs:Array Value):Obj→Obj
 | .cells _ t frozen=>.cells cs t frozen
 | o=>o
section
variable {H:Type} {enc:TypeId×Value→H} {P:Program}
theorem Rc {f:Func} {s:ChangeSpec} {apart fresh e k:Bool} {W l:World} {args:Array Value} {v:Value} {ds o:List (DataW H)} {before pa pv:List MemPlace}
  (q:DataW.Whole enc P f.params.toList s.vars apart W args.toList ds o before)
  (h:∀ (b:Nat) (sp:Nat→Bool) (hd:Bool),DataW.TrodAll enc P l b sp hd f.resultTypes.toList (v.resultList f.resultTypes.size) (s.fn H (ds++o)).results [])
  (d:∀ sp:Nat→Bool,(∀ p∈before,sp p.block=true)→DataW.TrodAll enc P l 0 sp true f.params.toList args.toList (s.fn H (ds++o)).args pa)
  (a:∀ sp:Nat→Bool,(∀ p∈before,sp p.block=true)→DataW.TrodVars enc P l sp s.vars (s.fn H (ds++o)).vars pv)
  (g:before=pa++pv) (hb:Below W.heap.size W l)
  (hok:∀ (j:Nat) (t:TypeId) (r:Value),f.resultTypes[j]?=some t→(v.resultList f.resultTypes.size)[j]?=some r→Value.okWide P l .any 0 t r) :
  s.post enc P f apart fresh e k W args v l:=by
 have m:∀ p∈before,p.block < W.heap.size:=fun p c=>q.lt p c
 have i:∀ p∈before,(fun b=>decide (b < W.heap.size)) p.block=true:=fun p c=>by simpa using m p c
 refine ⟨ds,o,before,[],pa,pv,q,h _ _ _,d _ i,a _ i,World.keptBut_mono (fun p c=>⟨c,?_⟩) (hb.frame (·∈before)),fun _=>?_⟩
 ·rw [g,List.mem_append] at c
  exact Or.inr c
 ·obtain ⟨_,_,_,_,_,hz,hn⟩:=q
  refine ⟨hok,_,_,([]++pa)++pv,⟨[]++pa,pv,trodAll_append (d _ (fun _ _=>rfl)) (h _ _ _),a _ (fun _ _=>rfl),rfl,?_,?_⟩,?_⟩
  ·intro b off c
   have n:MemPlace.cell b off∈before:=by rw [g]; simpa using c
   rw [hb.frozen (m _ n)]
   exact hz b off n
  ·intro ha
   have:=hn ha
   rw [g] at this
   simpa using this
  ·intro p c _
   rw [g]
   simpa using c
end
noncomputable def rL (h:Array Obj) (x:String×DataW Unit):Array Obj:=
 match Tryz.prog.globalNamed x.1 with
 | some g=>h.modify g (setRow (iN x.2).toArray)
 | none=>h
theorem rP:Tryz.prog.globalNamed "payroll/compiler.instructionNames"=some 0:=by kernel_rfl
theorem ZK:(Tryz.prog.globals[0]?).map (·.type)=some 156:=by kernel_rfl
theorem cS:My Tryz.prog 4 156 Rows.laid_payroll_compiler_instructionNames=some KB:=by kernel_rfl
theorem iI {W:World} {rest:List (String×DataW Unit)} (h:laidMet Tryz.prog (("payroll/compiler.instructionNames",Rows.laid_payroll_compiler_instructionNames) :: rest) W):∀ j v,KB[j]?=some v→W.cell? ⟨0,j,none⟩=some v:=
 cJ 4 rP ZK cS h
theorem VI {W:World} {rest:List (String×DataW Unit)} (h:laidMet Tryz.prog (("payroll/compiler.instructionNames",Rows.laid_payroll_compiler_instructionNames) :: rest) W):Hs W:=iI h
theorem ZG {W:World} (hs:W.ShapedOpen Tryz.prog):Tryz.prog.globals.size≤W.heap.size:=by
 have b:Tryz.prog.globals.size=4:=by kernel_rfl
 have a:(((begin Tryz.prog (fun _ _=>0) default).world.heap[3]?).bind Obj.row?).isSome=true:=by kernel_rfl
 rw [Option.isSome_iff_exists] at a
 obtain ⟨⟨zero,t⟩,a⟩:=a
 obtain ⟨cs,c,_⟩:=hs.1 3 zero t (by rw [b]; decide) a
 have:=(Array.getElem?_eq_some_iff.1 c).1
 omega
theorem ie:Tryz.prog.cellsOf 3=1:=by kernel_rfl
theorem me:laidOutB Tryz.prog=true:=by kernel_rfl
set_option maxRecDepth 100000 in
theorem mf {H:Type} {enc:TypeId×Value→H} {W:World} {r:Reach} {b0:Nat} {v:Value} {d:DataW H} {ps:List MemPlace} (hval:Value.okWide Tryz.prog W r b0 56 v)
  (h:DataW.Trod enc Tryz.prog W 0 (fun _=>true) true 56 v d ps):∃ ns,He W W.heap.size v ns:=by
 obtain ⟨a0,len,cap,rfl⟩:=okWide_slice Tryz.underlying56 hval
 obtain ⟨fuel,hf⟩:=h
 rcases open_ints Tryz.underlying56 Tryz.underlying3 ie hf with ⟨hcs,_⟩ | ⟨a,len',cap',zs,hcs,_,hl,hm,hz,_,hcell,hwz⟩
 ·simp [Value.cells] at hcs
  obtain ⟨rfl,rfl,rfl⟩:=hcs
  exact ⟨[],none,0,rfl,Nat.zero_le _,fun x hx=>(by cases hx),fun h=>(by cases h)⟩
 ·simp [Value.cells] at hcs
  obtain ⟨rfl,rfl,rfl⟩:=hcs
  rw [if_pos rfl] at hz
  have hlen:(zs.take len).length=len:=by simp; omega
  refine ⟨zs.take len,some a,cap,by rw [hlen],by omega,fun x hx=>bounds_i64 (hwz x (List.mem_of_mem_take hx)),fun h=>?_⟩
  obtain ⟨b,off,rfl,hc⟩:=Go.ints_at hcell (by omega)
  refine ⟨b,off,rfl,World.block_lt_of_cell? W _ (hc 0 (by omega)),fun i hi=>?_⟩
  rw [hc i (by omega),List.getElem_take,List.getD_eq_getElem?_getD,List.getElem?_eq_getElem (by omega)]
  rfl
end Go.Proofs.YtmcpjkcggfmcmaaGreatDoor
namespace Go.Proofs.YtmcpjkcggfmcmaaGreatDoor
noncomputable section
open Go.RowKit
set_option maxRecDepth 100000
set_option maxHeartbeats 1000000
attribute [local irreducible] BO CB AE AG AL Ay Aj AP Bc Cq Eb CT CO At Fr
def CQ (ds:List (Df)) (p1:Int):List (Df)→Nat→List Nat→List Nat
 | [],i0,a0_0=>a0_0
 | e0 :: tl,i0,a0_0=>cond (cond (cond (e0.kind == 1) (true) (e0.kind == 5)) (true) (cond (decide (e0.frm≤p1)) (!(Ek ds p1 i0)) (false))) (CQ ds p1 tl (i0 + 1) (a0_0++[i0])) (CQ ds p1 tl (i0 + 1) a0_0)
theorem Qp {ds:List (Df)} {p1:Int} {b:Nat} {a:List Nat}:CQ ds p1 [] b a=(a):=by rw [CQ]
theorem QK {ds:List (Df)} {p1:Int} {b:List Nat} {es:List (Df)} (a:Nat) (c:Df) (hi:es[a]?=some c):CQ ds p1 (es.drop a) a b=(cond (cond (cond (c.kind == 1) (true) (c.kind == 5)) (true) (cond (decide (c.frm≤p1)) (!(Ek ds p1 a)) (false))) (CQ ds p1 (es.drop (a + 1)) (a + 1) (b++[a])) (CQ ds p1 (es.drop (a + 1)) (a + 1) b)):=by
 have hl:a < es.length:=(List.getElem?_eq_some_iff.1 hi).1
 have he:es[a]=c:=(List.getElem?_eq_some_iff.1 hi).2
 rw [← List.getElem_cons_drop hl,CQ] <;> (try rw [he])
def BC (ds:List (Df)) (p1:Int):List Nat:=CQ ds p1 ds 0 ([])
noncomputable def da:Code:=Tryz.f90.body.getD .skip
def X7:=AB 60 ([.code da])
def X6:=AB 60 (Ay X7)
def p8:=AB (BA Ai 90 (AG X6)) (AG X6)
def p7:=Ad 5 (AE (AE p8))
def ft:=AB 60 (AP p7)
def p6:=AB (BA Bb 90 (AG ft)) (AG ft)
def v7:=AB 60 (AL X6)
theorem QJ (o:List UInt8) (m:Option Addr) (ds:List (Df)) (a:Nat) (p1:Int) (w:World) (a0:rowsDf w m ds) (b0:ds.length≤4294967296):Calls Tryz.prog 90 ([.agg ⟨[.string ⟨⟨o⟩⟩,.slice m ds.length a]⟩,D p1]:List Value).toArray w fun e w'=>∃ (q0:Option Addr) (p0:Nat),e=.returned (.slice q0 ((BC ds p1).length) p0)∧Below w.heap.size w w'∧AU w.heap.size w' [BP q0 p0 (BC ds p1)]:=by
 refine Af (fn:=Tryz.f90) (c:=da) (n:=43) ?_
 have K1:=Wk.start w
 refine BQ X7 K1 [(0,1)] fun w1 K2=>?_
 let z3:List BI:=[⟨w.heap.size,0,[.string ⟨⟨o⟩⟩,.slice m ds.length a],38,true⟩]
 have K3:Wk w w1 z3 [] []:=K2.pk [0] []
 have K4:=K3.addNil 3 1 (fun e r=>r=Fs e)
 have p:(BC ds p1)=CQ ds p1 ds 0 ([]):=by unfold BC; rfl
 let z2:Option Addr:=some ⟨w.heap.size,0,none⟩
 refine BB [(1,D p1),(2,.pointer z2),(4,.slice none 0 0),(5,.slice none 0 0),(9,.slice m ds.length a),(10,D ((ds.length:Int))),(11,D (((0:Nat):Int)))] fun E2=>?_
 refine Bi (by kernel_rfl) (fun E k0=>∃ (d:Nat) (b:List Nat) (h:Option Addr) (f:Nat) (E0:Nat→Value),d≤ds.length∧E=Aw E0 [(1,D p1),(2,.pointer z2),(4,.slice none 0 0),(5,.slice h b.length f),(9,.slice m ds.length a),(10,D ((ds.length:Int))),(11,D ((d:Int)))]∧(BC ds p1)=CQ ds p1 (List.drop d ds) d b∧b.length≤1 * d + 0∧Wk w k0 z3 [(BP h f b)] []) (fun E _=>ds.length - AQ (E 11)) ⟨0,([]),none,0,E2,Nat.zero_le _,rfl,p,by simp,K4⟩ ?_
 clear p
 rintro E k0 ⟨d,b,h,f,E0,v1,rfl,p,c1,K5⟩ q
 refine AC X6 K5 [] fun w4 K6=>?_
 refine AM (decide ((d:Int) < (ds.length:Int))) (fun c5=>?_) (fun c5=>?_)
 ·have y:d < ds.length:=by have:=of_decide_eq_true c5; omega
  obtain ⟨i,v0⟩:∃ e,ds[d]?=some e:=⟨_,List.getElem?_eq_getElem y⟩
  rw [QK d i v0] at p
  obtain ⟨j,l,rfl,w0,x0⟩:=a0.all (by omega)
  obtain ⟨x,t,v,s,r0,e1,d1⟩:=x0 d _ v0
  refine BG Ai p8 K6 [] fun w6 K7=>?_
  refine BH (g:=j) (off:=l) (cap:=a) (sz:=21) (k:=d) (len:=ds.length) (some 14) y Tryz.underlying36 ?_
  refine CC 34 j (l + d * 21) [D i.kind,.string ⟨⟨i.name⟩⟩,.bool (i.tb),D i.tm,D i.th,D i.td,D i.frm,.slice x i.ents.length t,D i.body.op,D i.body.num,D i.body.den,D i.body.mu,D i.body.hu,D i.body.du,.string ⟨⟨i.body.nm⟩⟩,D i.body.cnt,D i.body.md,.slice v i.body.ks.length s,D i.mode,D i.num,D i.den] (some 15) (Ac r0 w0 K7.B) ?_
  let z1:List Value:=[.string ⟨⟨o⟩⟩,.slice (some ⟨j,l,none⟩) ds.length a]
  refine CR 5 p7 [⟨w.heap.size,0,z1,38,true⟩,⟨w6.heap.size,0,(Ce i x t v s),34,true⟩] K7 [(1,0)] fun w7 K8=>?_
  refine Ao K8 [(1,1,0),(5,1,0),(10,1,6),(14,0,0)] [⟨17,[(30,.agg ⟨z1⟩),(31,D p1),(32,D ((d:Int)))],.bool (Ek ds p1 d),((decide (i.frm≤p1))) && ((!(cond (i.kind == 1) (true) (i.kind == 5))) && (true))⟩] K8.G (fun sp b1=>?_) fun w8 E8 K9=>?_
  ·rw [List.mem_singleton.1 b1]
   exact AX 126 [.tmp 30,.tmp 31,.tmp 32] [.agg ⟨z1⟩,D p1,D ((d:Int))] (fun _=>by kernel_rfl) fun hc u hu=>AR hu (Ts _ _ ds _ p1 d u (a0.below (K8.B.trans (hu.mono K8.B.size))) b0 (by omega))
  refine AC ft K9 [] fun w9 y0=>?_
  refine AM (cond (cond (i.kind == 1) (true) (i.kind == 5)) (true) (cond (decide (i.frm≤p1)) (!(Ek ds p1 d)) (false))) (fun d0=>?_) (fun d0=>?_)
  ·refine Cb Bb p6 [⟨w.heap.size,0,z1,38,true⟩,⟨w6.heap.size,0,(Ce i x t v s),34,true⟩,⟨w9.heap.size,0,[D ((d:Int))],3,true⟩] y0 [] fun t1 z=>?_
   refine Ch z.H (z.ix 0) (z.at 0 rfl) d [D ((d:Int))] rfl (w9.heap.size) (z.ent 2 (by kernel_rfl)) (DM p6) (by kernel_rfl) (.tmp 37) (.tmp 39) 56 (by kernel_rfl) (by kernel_rfl) (by kernel_rfl) (by decide) (by kernel_rfl) (by kernel_rfl) rfl rfl (by ((try simp only [maxLen,List.length_append,List.length_cons,List.length_nil,List.length_singleton]) <;> omega)) fun h0 c0 s1 Hn f1=>?_
   have m1:=z.put 0 (by simp) f1 Hn
   refine AC (Aj X7) m1 [] fun a1 k1=>?_
   refine BB [(1,D p1),(2,.pointer z2),(4,.slice none 0 0),(5,.slice h0 ((b++[d]).length) c0),(9,.slice (some ⟨j,l,none⟩) ds.length a),(10,D ((ds.length:Int))),(11,D (IntKind.i64.wrap ((d:Int) + 1)))] fun q1=>?_
   have i1:Wk w a1 [⟨w.heap.size,0,z1,38,true⟩] [(BP h0 c0 (b++[d]))] []:=k1.pk [0] [0]
   rw [Bs d (by omega)]
   refine q _ _ ⟨d + 1,(b++[d]),h0,c0,q1,y,rfl,by rw [p,d0] <;> rfl,by ((try simp only [maxLen,List.length_append,List.length_cons,List.length_nil,List.length_singleton]) <;> omega),i1⟩ ?_
   show ds.length - AQ (D ((d + 1:Nat):Int)) < ds.length - AQ (D (d:Int))
   simp only [AQ]
   omega
  ·refine AC (Aj X7) y0 [] fun z0 h1=>?_
   refine BB [(1,D p1),(2,.pointer z2),(4,.slice none 0 0),(5,.slice h b.length f),(9,.slice (some ⟨j,l,none⟩) ds.length a),(10,D ((ds.length:Int))),(11,D (IntKind.i64.wrap ((d:Int) + 1)))] fun n1=>?_
   have g1:Wk w z0 [⟨w.heap.size,0,z1,38,true⟩] [(BP h f b)] []:=h1.pk [0] [0]
   rw [Bs d (by omega)]
   refine q _ _ ⟨d + 1,b,h,f,n1,y,rfl,by rw [p,d0] <;> rfl,by ((try simp only [maxLen,List.length_append,List.length_cons,List.length_nil,List.length_singleton]) <;> omega),g1⟩ ?_
   show ds.length - AQ (D ((d + 1:Nat):Int)) < ds.length - AQ (D (d:Int))
   simp only [AQ]
   omega
 ·have t0:d=ds.length:=by have:=of_decide_eq_false c5; omega
  rw [t0,List.drop_length,Qp] at p
  refine AC v7 K6 [] fun r1 f0=>?_
  have hS:(BC ds p1)=b:=by rw [p] <;> rfl
  exact Ab f0 (0,0) (.slice h b.length f) ⟨h,f,by rw [hS] <;> rfl,f0.B,by rw [hS]; exact f0.own0 [0] rfl (by decide)⟩
end
end Go.Proofs.YtmcpjkcggfmcmaaGreatDoor

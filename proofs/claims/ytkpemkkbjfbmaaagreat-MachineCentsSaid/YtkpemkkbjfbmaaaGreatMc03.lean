/- Contracts of functions, part 3. -/
import Derived.Test.YtkpemkkbjfbmaaaGreatMc02
import Derived.Test.YtkpemkkbjfbmaaaGreatMc01
import Derived.Below
import Derived.Test.YtkpemkkbjfbmaaaGreatMc00
import Derived.Shelf.Strconv.Itoa0
import Derived.Shelf.Sort.Plain
import Derived.Shelf.Bits.Mul64
import Derived.Ground.Names2Prog
import Derived.Shelf.Slices.CompactI
import Derived.Test.YtkpemkkbjfbmaaaGreatProg
set_option linter.all false
namespace Go.Proofs.YtkpemkkbjfbmaaaGreat
open List
section
variable {P:Program} {f:FuncId} {R:Ending->World->Prop}
theorem FN.below {O:List Nat} {B:Nat} {w w':World} (h:FN O B w w') {a:Nat} (d:a<=B) (b:∀k∈O,a<=k):Go.RowKit.Below a w w':=
 ⟨h.os,h.tape,h.output,h.size,λk c=>h.block k (by omega) λhm=>by have:=b k hm;omega⟩
theorem MF (w:World) (mem:List Ax) (hg:∀e∈mem,e.good w) (hn:(mem.map (·.id)).Nodup):En (mem.map (·.id)) (U w) w ⟨U w,mem,(0,0),[]⟩:=by
 refine⟨⟨rfl,hg,λi j e e' hi c _ a he=>?_⟩,Nat.le_refl _,λe he _=>.inl (mem_map.2 ⟨e,he,rfl⟩)⟩;have b:(mem.map (·.id))[i]?=some e.id:=by rw[getElem?_map,hi];rfl
 have h2:(mem.map (·.id))[j]?=some e.id:=by rw[getElem?_map,c];exact congrArg some he.symm
 exact a ((getElem?_inj (List.getElem?_eq_some_iff.1 b).1 hn).1 (b.trans h2.symm))
def GP (n:Nat) (E:Nat->Value):List Item->Option Oper
 | .inRegion ops (i::_)::_=>match ops[i]? with
  | some o=>match Region.wanted o (IU n ops E)with
   | true=>some o
   | false=>none
  | none=>none
 | _=>none
theorem Om {n:Nat} {todo:List Item} {E:Nat->Value} {w w':World} {v:Value} (o:Oper) (hc:GP n E todo=some o) (hx:(execOp (BK n E) o).run P w=.ok (.value v) w') (h:At P f R (AD todo) (Fr n (A8 E o.dst v)) w'):At P f R todo (Fr n E) w:=by
 unfold GP at hc
 split at hc
 ·rename_i ops i r k
  split at hc
  ·rename_i o' ho
   split at hc
   ·rename_i hw
    obtain rfl:=Option.some.inj hc;refine GC ho (by rw[Fi];exact hw) ?_;unfold Oper.wp;rw[D8,hx];show wpOps P ops _ r ((Fr n E).put o'.dst v) w';rw[Eo];exact h
   cases hc
  cases hc
 cases hc
def Ir (n:Nat) (E:Nat->Value) (todo:List Item):Option (FuncId×List Value×Option Tmp):=match GP n E todo with
 | some o=>match o.op with
  | .call ⟨.value x,xs,_⟩=>match BK n E x with
   | .func (.func g) ⟨first⟩ ⟨captured⟩=>some (g,first++(xs.toList.map (BK n E)++captured),o.dst)
   | _=>none
  | _=>none
 | none=>none
theorem qy {n:Nat} {todo:List Item} {E:Nat->Value} {w:World} (g:FuncId) (args:List Value) (dst:Option Tmp) (hc:Ir n E todo=some (g,args,dst)) (hg:Dr P g=true)
  (h:Calls P g args.toArray w λe w'=>∃v,e=.returned v/\At P f R (AD todo) (Fr n (A8 E dst v)) w'):At P f R todo (Fr n E) w:=by
 unfold Ir at hc
 split at hc
 ·rename_i o hcur
  split at hc
  ·rename_i x xs ats ho
   split at hc
   ·rename_i g' first captured hx
    simp only[Option.some.injEq,Prod.mk.injEq]at hc;obtain⟨rfl,ha,rfl⟩:=hc;unfold GP at hcur
    split at hcur
    ·rename_i ops i r k
     split at hcur
     ·rename_i o' ho'
      split at hcur
      ·rename_i hw
       obtain rfl:=Option.some.inj hcur;refine GC ho' (by rw[Fi];exact hw) ?_;unfold Oper.wp;rw[D8];have e:(execOp (BK n E) o').run P w=.ok (.enter g' args.toArray) w:=by
        rw[<-Cf (h:=hg) args.toArray w,<-ha];have c:((⟨first⟩:Array Value)++xs.map (BK n E))++(⟨captured⟩:Array Value)=(first++(xs.toList.map (BK n E)++captured)).toArray:=by apply Array.ext';simp
        rw[<-c];simp only[execOp,ho,resolve,hx];rfl
       rw[e];refine h.mono λd w' b=>?_;obtain⟨v,rfl,a⟩:=b;show wpOps P ops _ r ((Fr n E).put o'.dst v) w';rw[Eo];exact a
      cases hcur
     cases hcur
    cases hcur
   cases hc
  cases hc
 cases hc
def Oj (n:Nat) (E:Nat->Value) (todo:List Item):Option (TypeId×Value×Option Tmp):=match GP n E todo with
 | some o=>match o.op with
  | .load t x=>some (t,BK n E x,o.dst)
  | _=>none
 | none=>none
theorem Bd {n:Nat} {todo:List Item} {E:Nat->Value} {w:World} (t:TypeId) (b o:Nat) (cs:List Value) (dst:Option Tmp) (a:w.rangeAt b o cs) (h:At P f R (AD todo) (Fr n (A8 E dst (D cs))) w) (hc:Oj n E todo=some (t,.pointer (some ⟨b,o,none⟩),dst):=by kernel_rfl) (h1:Rc P t=some true:=by kernel_rfl) (h2:Le P t=some cs.length:=by kernel_rfl):At P f R todo (Fr n E) w:=by
 unfold Oj at hc
 split at hc
 ·rename_i op hcur
  split at hc
  ·rename_i t' x ho
   simp only[Option.some.injEq,Prod.mk.injEq]at hc;obtain⟨rfl,hx,rfl⟩:=hc;refine Om op hcur (v:=D cs) (w':=w) ?_ h;have hl:=run_loadCells_list (P:=P) w ⟨b,o,none⟩ cs λj v c=>by rw[rC _ _ rfl];exact a j v c
   simp[execOp,ho,hx,Instr.loadAt,Instr.sureAddr,loadVar,S0 h1,In h2,hl]
  cases hc
 cases hc
theorem EF {n:Nat} {todo:List Item} {E:Nat->Value} {w:World} (t:TypeId) (b o:Nat) (v:Value) (dst:Option Tmp) (a:w.cell? ⟨b,o,none⟩=some v) (h:At P f R (AD todo) (Fr n (A8 E dst v)) w) (hc:Oj n E todo=some (t,.pointer (some ⟨b,o,none⟩),dst):=by kernel_rfl) (h1:Rc P t=some false:=by kernel_rfl):At P f R todo (Fr n E) w:=by
 unfold Oj at hc
 split at hc
 ·rename_i op hcur
  split at hc
  ·rename_i t' x ho
   simp only[Option.some.injEq,Prod.mk.injEq]at hc;obtain⟨rfl,hx,rfl⟩:=hc;refine Om op hcur (v:=v) (w':=w) ?_ h;simp[execOp,ho,hx,Instr.loadAt,Instr.sureAddr,loadVar,S0 h1,load,Sem.run,a]
  cases hc
 cases hc
theorem FU {n:Nat} {fn:Func} {E:Nat->Value} {w:World} {todo:List Item} (m:Nat) (v:Value) (hk:∀w',Go.RowKit.Below w.heap.size w w'->R (.returned v) w') (hf:P.funcs[f]?=some fn:=by kernel_rfl) (he:(λa:St=>(Ra a.todo,a.ms.mem,a.ms.sz,a.ms.eqs,(Dp P (Fw fn n a.env) ⟨0,[],(0,0),[]⟩).map (λr=>(r.1,r.2.eqs)))) (IL P n m ⟨todo,E,⟨w.heap.size,[],(0,0),[]⟩,[]⟩)=(true,[],w.heap.size,[],some (v,[])):=by kernel_rfl):At P f R todo (Fr n E) w:=by
 simp only[Prod.mk.injEq]at he;obtain⟨h1,h2,h3,h4,h5⟩:=he;refine YQ (O:=[]) (B:=w.heap.size) m ⟨todo,E,⟨w.heap.size,[],(0,0),[]⟩,[]⟩ (CQ w) (by rw[h4];rfl) λw' hL' hK=>?_;have h6:(Dp P (Fw fn n (IL P n m ⟨todo,E,⟨w.heap.size,[],(0,0),[]⟩,[]⟩).env) ⟨0,[],(0,0),[]⟩).map (·.1)=some v:=by
  cases hl:Dp P (Fw fn n (IL P n m ⟨todo,E,⟨w.heap.size,[],(0,0),[]⟩,[]⟩).env) ⟨0,[],(0,0),[]⟩with
  | none=>rw[hl]at h5;cases h5
  | some r=>rw[hl]at h5;simp at h5;simp[h5.1]
 refine oU (fn:=fn) h1 hf ⟨0,[],(0,0),[]⟩ (λe he=>(by cases he)) v h6 ?_ (hk w' (hK.below (Nat.le_refl _) (λk hk=>by cases hk)))
 cases hl:Dp P (Fw fn n (IL P n m ⟨todo,E,⟨w.heap.size,[],(0,0),[]⟩,[]⟩).env) ⟨0,[],(0,0),[]⟩with
 | none=>rfl
 | some r=>
  rw[hl]at h5;simp at h5;simp[h5.2]
end
inductive Ex where
 | mk (op num den mu hu du:Int) (name:List UInt8) (count mode:Int) (kids:List Ex):Ex
mutual
def Ex.height:Ex->Nat
 | .mk _ _ _ _ _ _ _ _ _ kids=>Ex.heights kids+1
def Ex.heights:List Ex->Nat
 | []=>0
 | e::es=>max (Ex.height e) (Ex.heights es)
end
structure Df where
 kind:Int
 name:List UInt8
 tb:Bool
 tm:Int
 th:Int
 td:Int
 frm:Int
 ents:List (Int×Int×Int)
 body:Ex
 mode:Int
 num:Int
 den:Int
def LU (e:Int×Int×Int):List Value:=[J e.1,J e.2.1,J e.2.2]
def Df.head (d:Df) (A:Option Addr) (c:Nat):List Value:=[J d.kind,.string ⟨d.name.toArray⟩,I d.tb,J d.tm,J d.th,J d.td,J d.frm,V A d.ents.length c]
def Df.tail (d:Df):List Value:=[J d.mode,J d.num,J d.den]
def BU:Ex:=.mk 0 0 0 0 0 0 [] 0 0 []
def DF (S:Nat->Prop) (w:World) (n:Nat) (A:Option Addr) (rs:List (List Value)):Prop:=
 rs=[]\/∃g off,A=some ⟨g,off,none⟩/\S g/\g<(U w)/\∀(i:Nat) r,rs[i]?=some r->∀(j:Nat) u,r[j]?=some u->w.cell? ⟨g,off+i*n+j,none⟩=some u
mutual
def DD (S:Nat->Prop) (w:World):Ex->List Value->Prop
 | .mk op num den mu hu du name count mode kids,cs=>∃A c ks,cs=[J op,J num,J den,J mu,J hu,J du,.string ⟨name.toArray⟩,J count,J mode,V A kids.length c]/\
   Fb S w kids ks/\DF S w 10 A ks
def Fb (S:Nat->Prop) (w:World):List Ex->List (List Value)->Prop
 | [],ks=>ks=[]
 | e::es,ks=>∃c cs,ks=c::cs/\DD S w e c/\Fb S w es cs
end
theorem DF.keep {S b:Nat->Prop} {n:Nat} {w w':World} {A:Option Addr} {rs:List (List Value)} (h:DF S w n A rs) (hs:(U w)<=(U w')) (hb:∀g,S g->g<(U w)->b g/\w'.heap[g]?=w.heap[g]?):DF b w' n A rs:=by
 rcases h with h | ⟨g,off,rfl,hg,a,hc⟩
 ·exact .inl h
 have:=hb g hg a;refine .inr ⟨g,off,rfl,this.1,by omega,λi r hi j u c=>?_⟩;rw[World.cell?_of_block (w:=w) this.2];exact hc i r hi j u c
mutual
theorem DD.keep {S a:Nat->Prop} {w w':World} (hs:(U w)<=(U w')) (hb:∀g,S g->g<(U w)->a g/\w'.heap[g]?=w.heap[g]?):∀(e:Ex) (cs:List Value),DD S w e cs->DD a w' e cs
 | .mk op num den mu hu du name count mode kids,cs,h=>by unfold DD at h ⊢;obtain⟨A,c,ks,d,h2,b⟩:=h;exact⟨A,c,ks,d,Fb.keep hs hb kids ks h2,b.keep hs hb⟩
theorem Fb.keep {S a:Nat->Prop} {w w':World} (hs:(U w)<=(U w')) (hb:∀g,S g->g<(U w)->a g/\w'.heap[g]?=w.heap[g]?):∀(es:List Ex) (ks:List (List Value)),Fb S w es ks->Fb a w' es ks
 | [],ks,h=>by unfold Fb at h ⊢;exact h
 | e::es,ks,h=>by unfold Fb at h ⊢;obtain⟨c,cs,d,h2,b⟩:=h;exact⟨c,cs,d,DD.keep hs hb e c h2,Fb.keep hs hb es cs b⟩
end
theorem DD.cells {S:Nat->Prop} {w:World} {x:Ex} {cs:List Value} (h:DD S w x cs):∃(a0 i g a3 a4 a5:Int) (f:List UInt8) (e d:Int) (A:Option Addr) (n c:Nat),cs=[J a0,J i,J g,J a3,J a4,J a5,.string ⟨f.toArray⟩,J e,J d,V A n c]:=by obtain⟨op,num,den,mu,hu,du,name,a,mode,b⟩:=x;unfold DD at h;obtain⟨A,c,ks,rfl,_⟩:=h;exact⟨_,_,_,_,_,_,_,_,_,_,_,_,rfl⟩
def Ff (S:Nat->Prop) (w:World) (d:Df) (cs:List Value):Prop:=
 ∃A c bs,DD S w d.body bs/\DF S w 3 A (d.ents.map LU)/\cs=d.head A c++bs++d.tail
theorem Ff.keep {S a:Nat->Prop} {w w':World} {d:Df} {cs:List Value} (h:Ff S w d cs) (hs:(U w)<=(U w')) (hb:∀g,S g->g<(U w)->a g/\w'.heap[g]?=w.heap[g]?):Ff a w' d cs:=by obtain⟨A,c,bs,e,h2,b⟩:=h;exact⟨A,c,bs,DD.keep hs hb _ _ e,h2.keep hs hb,b⟩
theorem Ff.len {S:Nat->Prop} {w:World} {d:Df} {cs:List Value} (h:Ff S w d cs):cs.length=21:=by obtain⟨A,c,bs,a,_,rfl⟩:=h;obtain⟨_,_,_,_,_,_,_,_,_,_,_,_,rfl⟩:=a.cells;simp[Df.head,Df.tail]
theorem Ff.cells {S:Nat->Prop} {w:World} {d:Df} {cs:List Value} (h:Ff S w d cs):∃(A:Option Addr) (c:Nat) (a0 k j a3 a4 a5:Int) (i:List UInt8) (g f:Int) (B:Option Addr) (a b:Nat),cs=[J d.kind,.string ⟨d.name.toArray⟩,I d.tb,J d.tm,J d.th,J d.td,J d.frm,V A d.ents.length c,J a0,J k,J j,J a3,J a4,J a5,.string ⟨i.toArray⟩,J g,J f,V B a b,J d.mode,J d.num,J d.den]:=by obtain⟨A,c,bs,e,_,rfl⟩:=h;obtain⟨_,_,_,_,_,_,_,_,_,_,_,_,rfl⟩:=e.cells;exact⟨_,_,_,_,_,_,_,_,_,_,_,_,_,_,rfl⟩
end Go.Proofs.YtkpemkkbjfbmaaaGreat
namespace Go.Proofs
open List
open Go.Shelf
def Tryz.lays129_ren:Go.Shelf.Ren:=⟨λ| 129=>158 | n=>n,λ| 53=>141 | 3=>3 | 4=>4 | 46=>103 | 5=>5 | 9=>9 | n=>n,λ| n=>n⟩
theorem Tryz.lays129:Go.Proofs.Lays.n129 Tryz.prog Tryz.lays129_ren:={
 mixed:=by kernel_rfl
 f129:=Tryz.func158.trans (congrArg some (by kernel_rfl))
 t3:=Tryz.underlying3
 a3:=Tryz.isAgg3
 z3:=Tryz.sizeOf3
 v3:=Tryz.zeroValue3
 t4:=Tryz.underlying4
 a4:=Tryz.isAgg4
 z4:=Tryz.sizeOf4
 v4:=Tryz.zeroValue4
 t5:=Tryz.underlying5
 a5:=Tryz.isAgg5
 z5:=Tryz.sizeOf5
 v5:=Tryz.zeroValue5
 t9:=Tryz.underlying9
 a9:=Tryz.isAgg9
 z9:=Tryz.sizeOf9
 v9:=Tryz.zeroValue9
 t46:=Tryz.underlying103
 a46:=Tryz.isAgg103
 z46:=Tryz.sizeOf103
 v46:=Tryz.zeroValue103
 t53:=Tryz.underlying141
 a53:=Tryz.isAgg141
 z53:=Tryz.sizeOf141
 v53:=Tryz.zeroValue141 }
theorem Tryz.bits_Len64 (x:Int) (w:World) (b:0<=x) (a:x<=18446744073709551615) :
  Calls Tryz.prog 158 #[.int .u64 x] w λe w'=>e=.returned (.int .i64 (Lib.bitLen x.toNat))/\w'=w:=Any.bits_Len64 Tryz.lays129 x w b a
def Tryz.lays189_ren:Go.Shelf.Ren:=⟨λ| 189=>121 | 125=>144 | 257=>143 | 128=>157 | 129=>158 | 294=>148 | 295=>149 | 296=>150 | 297=>151 | 298=>152 | 299=>153 | 216=>154 | 300=>155 | 301=>156 | 328=>161 | 329=>162 | 330=>163 | 331=>164 | 332=>165 | 215=>131 | 343=>167 | n=>n,λ| 28=>22 | 3=>3 | 46=>103 | 0=>0 | 51=>204 | 53=>141 | 4=>4 | 183=>198 | 182=>197 | 131=>128 | 5=>5 | 9=>9 | 218=>209 | 222=>212 | 228=>214 | 229=>159 | n=>n,λ| n=>n⟩
theorem Tryz.lays189:Go.Proofs.Lays.n189 Tryz.prog Tryz.lays189_ren:={
 mixed:=by kernel_rfl
 f125:=Tryz.func144.trans (congrArg some (by kernel_rfl))
 f128:=Tryz.func157.trans (congrArg some (by kernel_rfl))
 f129:=Tryz.func158.trans (congrArg some (by kernel_rfl))
 f189:=Tryz.func121.trans (congrArg some (by kernel_rfl))
 f215:=Tryz.func131.trans (congrArg some (by kernel_rfl))
 f216:=Tryz.func154.trans (congrArg some (by kernel_rfl))
 f257:=Tryz.func143.trans (congrArg some (by kernel_rfl))
 f294:=Tryz.func148.trans (congrArg some (by kernel_rfl))
 f295:=Tryz.func149.trans (congrArg some (by kernel_rfl))
 f296:=Tryz.func150.trans (congrArg some (by kernel_rfl))
 f297:=Tryz.func151.trans (congrArg some (by kernel_rfl))
 f298:=Tryz.func152.trans (congrArg some (by kernel_rfl))
 f299:=Tryz.func153.trans (congrArg some (by kernel_rfl))
 f300:=Tryz.func155.trans (congrArg some (by kernel_rfl))
 f301:=Tryz.func156.trans (congrArg some (by kernel_rfl))
 f328:=Tryz.func161.trans (congrArg some (by kernel_rfl))
 f329:=Tryz.func162.trans (congrArg some (by kernel_rfl))
 f330:=Tryz.func163.trans (congrArg some (by kernel_rfl))
 f331:=Tryz.func164.trans (congrArg some (by kernel_rfl))
 f332:=Tryz.func165.trans (congrArg some (by kernel_rfl))
 f343:=Tryz.func167.trans (congrArg some (by kernel_rfl))
 t0:=Tryz.underlying0
 a0:=Tryz.isAgg0
 z0:=Tryz.sizeOf0
 v0:=Tryz.zeroValue0
 t3:=Tryz.underlying3
 a3:=Tryz.isAgg3
 z3:=Tryz.sizeOf3
 v3:=Tryz.zeroValue3
 t4:=Tryz.underlying4
 a4:=Tryz.isAgg4
 z4:=Tryz.sizeOf4
 v4:=Tryz.zeroValue4
 t5:=Tryz.underlying5
 a5:=Tryz.isAgg5
 z5:=Tryz.sizeOf5
 v5:=Tryz.zeroValue5
 t9:=Tryz.underlying9
 a9:=Tryz.isAgg9
 z9:=Tryz.sizeOf9
 v9:=Tryz.zeroValue9
 t28:=Tryz.underlying22
 a28:=Tryz.isAgg22
 z28:=Tryz.sizeOf22
 v28:=Tryz.zeroValue22
 t46:=Tryz.underlying103
 a46:=Tryz.isAgg103
 z46:=Tryz.sizeOf103
 v46:=Tryz.zeroValue103
 t51:=Tryz.underlying204
 a51:=Tryz.isAgg204
 z51:=Tryz.sizeOf204
 v51:=Tryz.zeroValue204
 t53:=Tryz.underlying141
 a53:=Tryz.isAgg141
 z53:=Tryz.sizeOf141
 v53:=Tryz.zeroValue141
 t131:=Tryz.underlying128
 a131:=Tryz.isAgg128
 z131:=Tryz.sizeOf128
 v131:=Tryz.zeroValue128
 t182:=Tryz.underlying197
 a182:=Tryz.isAgg197
 z182:=Tryz.sizeOf197
 v182:=Tryz.zeroValue197
 t183:=Tryz.underlying198
 a183:=Tryz.isAgg198
 z183:=Tryz.sizeOf198
 v183:=Tryz.zeroValue198
 t218:=Tryz.underlying209
 a218:=Tryz.isAgg209
 z218:=Tryz.sizeOf209
 v218:=Tryz.zeroValue209
 t222:=Tryz.underlying212
 a222:=Tryz.isAgg212
 z222:=Tryz.sizeOf212
 v222:=Tryz.zeroValue212
 t228:=Tryz.underlying214
 a228:=Tryz.isAgg214
 z228:=Tryz.sizeOf214
 v228:=Tryz.zeroValue214
 t229:=Tryz.underlying159
 a229:=Tryz.isAgg159
 z229:=Tryz.sizeOf159
 v229:=Tryz.zeroValue159 }
open Go.Sort Go.RowKit in
theorem Tryz.slices_Sort_int (blk off cap:Nat) (zs:List Int) (w:World) (hH:Holds (Value.int .i64) w blk off zs.toArray) (hblk:blk<w.heap.size) (hsz:zs.length<4611686018427387904) :
  Calls Tryz.prog 121 #[.slice (some ⟨blk,off,none⟩) zs.length cap] w λe w'=>
   e=.returned (.tuple #[])/\∃n os,w'=grow (putRow (Value.int .i64) (Sort.ahead w n) blk off (zs.mergeSort λx y=>decide (x<=y)).toArray) os:=Any.slices_Sort_int Tryz.lays189 blk off cap zs w hH hblk hsz
def Tryz.lays264_ren:Go.Shelf.Ren:=⟨λ| 264=>159 | n=>n,λ| 53=>141 | 46=>103 | n=>n,λ| n=>n⟩
theorem Tryz.lays264:Go.Proofs.Lays.n264 Tryz.prog Tryz.lays264_ren:={
 mixed:=by kernel_rfl
 f264:=Tryz.func159.trans (congrArg some (by kernel_rfl))
 t46:=Tryz.underlying103
 a46:=Tryz.isAgg103
 z46:=Tryz.sizeOf103
 v46:=Tryz.zeroValue103
 t53:=Tryz.underlying141
 a53:=Tryz.isAgg141
 z53:=Tryz.sizeOf141
 v53:=Tryz.zeroValue141 }
open Go.RowKit Go.Lib in
theorem Tryz.bits_Mul64 (x y:Nat) (hx:x<18446744073709551616) (hy:y<18446744073709551616) (w:World) :
  Calls Tryz.prog 159 #[.int .u64 x,.int .u64 y] w λe w'=>e=.returned (.tuple #[.int .u64 ((x*y/18446744073709551616:Nat):Int),.int .u64 ((x*y%18446744073709551616:Nat):Int)])/\w'=w:=Any.bits_Mul64 Tryz.lays264 x y hx hy w
def Tryz.laysNm220_ren:Go.Shelf.Ren:=⟨λ| 20=>122 | n=>n,λ| 22=>22 | 3=>3 | 4=>4 | 0=>0 | n=>n,λ| n=>n⟩
theorem Tryz.laysNm220:Go.Proofs.Lays2.n20 Tryz.prog Tryz.laysNm220_ren:={
 mixed:=by kernel_rfl
 f20:=Tryz.func122.trans (congrArg some (by kernel_rfl))
 t0:=Tryz.underlying0
 a0:=Tryz.isAgg0
 z0:=Tryz.sizeOf0
 v0:=Tryz.zeroValue0
 t3:=Tryz.underlying3
 a3:=Tryz.isAgg3
 z3:=Tryz.sizeOf3
 v3:=Tryz.zeroValue3
 t4:=Tryz.underlying4
 a4:=Tryz.isAgg4
 z4:=Tryz.sizeOf4
 v4:=Tryz.zeroValue4
 t22:=Tryz.underlying22
 a22:=Tryz.isAgg22
 z22:=Tryz.sizeOf22
 v22:=Tryz.zeroValue22
 i3:=by kernel_rfl }
open Go.RowKit Go.Lib Go.Sort in
theorem Tryz.slices_Compact_int (blk off cap:Nat) (zs:List Int) (w:World) (hH:Holds (Value.int .i64) w blk off zs.toArray) (hsz:zs.length<=9223372036854775807) (hcap:zs.length<=cap) :
  Calls Tryz.prog 122 #[.slice (some ⟨blk,off,none⟩) zs.length cap] w λe w'=>e=.returned (.slice (some ⟨blk,off,none⟩) (Lib.compact zs).length cap)/\∃q,w'=putRow (Value.int .i64) (Sort.ahead w q) blk off (Lib.compact zs++replicate (zs.length-(Lib.compact zs).length) 0).toArray:=Any.slices_Compact_int Tryz.laysNm220 blk off cap zs w hH hsz hcap
open Go.RowKit Go.Lib Go.Sort in
theorem Tryz.slices_Compact_int_empty (a:Option Addr) (cap:Nat) (w:World) :
  Calls Tryz.prog 122 #[.slice a 0 cap] w λe w'=>e=.returned (.slice a 0 cap)/\w'=w:=Any.slices_Compact_int_empty Tryz.laysNm220 a cap w
end Go.Proofs
namespace Go.Proofs.YtkpemkkbjfbmaaaGreat
open List
open Go.RowKit
attribute [local go_sem] oT iE iX
set_option maxHeartbeats 1000000 in
theorem gX (l:List UInt8) (w:World) (hs:l.length<=maxLen) :
  Calls Tryz.prog 45 #[.string ⟨l.toArray⟩] w λe w'=>e=.returned (I (Tk.isName l))/\w=w':=by
 have hs':=hs;unfold maxLen at hs;by_cases h0:0<l.length
 ·by_cases h1:l.length<=24
  ·by_cases h2:Tk.wordLen l=l.length
   ·have hn:Tk.isName l=!Tk.isKey l:=by simp[Tk.isName,h0,h1,h2]
    rw[hn];have h3:((Tk.wordLen l:Int)==l.length)=true:=by simp;omega
    clear hn h2
    go_enter Tryz.func45,Tryz.ntmps45
    go_wp2_with ((first | (go_at_call 72;refine(L5 _ _ hs').mono ?_;rintro e w' ⟨rfl,rfl⟩) | (go_at_call 73;refine(NO _ _).mono ?_;rintro e w' ⟨rfl,rfl⟩)))
    go_ret
    exact⟨rfl,rfl⟩
   have hn:Tk.isName l=false:=by simp[Tk.isName,h2]
   rw[hn];have h3:((Tk.wordLen l:Int)==l.length)=false:=by simp;omega
   clear hn h2
   go_enter Tryz.func45,Tryz.ntmps45
   go_wp2_with ((first | (go_at_call 72;refine(L5 _ _ hs').mono ?_;rintro e w' ⟨rfl,rfl⟩) | (go_at_call 73;refine(NO _ _).mono ?_;rintro e w' ⟨rfl,rfl⟩)))
   go_ret
   exact⟨rfl,rfl⟩
  have hn:Tk.isName l=false:=by simp[Tk.isName,h1]
  rw[hn];clear hn
  go_enter Tryz.func45,Tryz.ntmps45
  go_wp2_with fail
  go_ret
  exact⟨rfl,rfl⟩
 have hn:Tk.isName l=false:=by simp[Tk.isName,h0]
 rw[hn];clear hn
 go_enter Tryz.func45,Tryz.ntmps45
 go_wp2_with fail
 go_ret
 exact⟨rfl,rfl⟩
end Go.Proofs.YtkpemkkbjfbmaaaGreat
namespace Go.Proofs.YtkpemkkbjfbmaaaGreat
open List
open Go.RowKit
set_option maxRecDepth 100000
theorem Ch {w w':World} (h:FN [] (U w) w w'):Below (U w) w w':=⟨h.os,h.tape,h.output,h.size,λk a=>h.block k a (by simp)⟩
theorem Kd {w w':World} (h:w=w'):Below (U w) w w':=h ▸ Below.refl _ _
theorem BG {M:List Ax} {w w':World} (h:∀e∈M,e.good w) (B:Below (U w) w w'):∀e∈M,e.good w':=λe he=>by
 have hg:=h e he;refine⟨Nat.lt_of_lt_of_le hg.1 B.size,?_⟩;have h2:=hg.2
 split at h2
 ·rename_i ho;rw[if_pos ho,B.block e.id hg.1];exact h2
 rename_i ho
 rw[if_neg ho];exact λj v hv=>(World.cell?_of_block (B.block e.id hg.1)).trans (h2 j v hv)
def Gs (q:Nat):List Item->Bool
 | .code (.region i _ _)::_=>Nat.beq i q
 | _=>false
def Kc (q:Nat):Nat->List Item->Nat
 | 0,_=>0
 | m+1,t=>match Gs q t with
  | true=>0
  | false=>match OV t with
   | some t'=>Kc q m t'+1
   | none=>0
noncomputable def Ac (q:Nat) (t:List Item):List Item:=AB (Kc q 90 t) t
section
variable {P:Program} {o:Oper} {ρ:Operand->Value} {w:World}
theorem TU (a b:List UInt8):((⟨⟨a⟩⟩:ByteArray).toList==(⟨⟨b⟩⟩:ByteArray).toList)=decide (a=b):=by
 have e:((⟨⟨a⟩⟩:ByteArray)==⟨⟨b⟩⟩)=decide (a=b):=by
  show((⟨a⟩:Array UInt8)==⟨b⟩)=decide (a=b);by_cases hab:a=b
  ·subst hab;simp
  rw[decide_eq_false hab,beq_eq_false_iff_ne];intro h2;exact hab (by injection h2)
 rw[beq_toListBytes]at e;exact e
theorem Ln {T T':TypeId} {x y:Operand} {a b:List UInt8} (hop:o.op=.binOp .neq T x y T') (hx:ρ x=Y a) (c:ρ y=Y b):(execOp ρ o).run P w=.ok (.value (I (!(decide (a=b))))) w:=by unfold execOp;simp only[hop,hx,c];unfold binOp Op.stringOp;have e:=TU a b;simp only[eqGuard,e];rfl
theorem Iq {T T':TypeId} {x y:Operand} {a b:List UInt8} (hop:o.op=.binOp .eql T x y T':=by kernel_rfl) (hx:ρ x=Y a:=by kernel_rfl) (hy:ρ y=Y b:=by kernel_rfl):(execOp ρ o).run P w=.ok (.value (I (decide (a=b)))) w:=by unfold execOp;simp only[hop,hx,hy];unfold binOp Op.stringOp;have e:=TU a b;simp only[eqGuard,e];rfl
theorem LS {T T':TypeId} {x y:Operand} {a b:Int} (hop:o.op=.binOp .rem T x y T') (hx:ρ x=J a) (c:ρ y=J b) (hb:b≠0):(execOp ρ o).run P w=.ok (.value (J (a.tmod b))) w:=by unfold execOp;simp[hop,hx,c,binOp,Op.intDiv,hb,eqGuard]
theorem DS {k:BinOp} {T:TypeId} {a b r:Value} (h2:(binOp k T a b).run P w=.ok r w) (c:(execOp ρ o).run P w=(binOp k T a b >>= λv=>(pure (.value v):Sem Next)).run P w:=by kernel_rfl):(execOp ρ o).run P w=.ok (.value r) w:=by rw[c,Sem.run_bind,h2];rfl
end
section
variable {P:Program} {f:FuncId} {R:Ending->World->Prop}
def wu (n:Nat) (E:Nat->Value) (todo:List Item):Option (TypeId×Value×Value×Option Tmp):=match GP n E todo with
 | some o=>match o.op with
  | .indexAddr t x i=>some (t,BK n E x,BK n E i,o.dst)
  | _=>none
 | none=>none
theorem BJ {P:Program} {o:Oper} {ρ:Operand->Value} {w:World} (T:TypeId) (x i:Operand) {g off len cap k sz:Nat} {e:TypeId} (b:k<len) (c:P.underlying T=some (.slice e)) (hop:o.op=.indexAddr T x i:=by kernel_rfl) (hx:ρ x=.slice (some ⟨g,off,none⟩) len cap:=by kernel_rfl) (hi:ρ i=J k:=by kernel_rfl) (hs:(P.info? e).map (·.size)=some sz:=by kernel_rfl):(execOp ρ o).run P w=.ok (.value (.pointer (some ⟨g,off+k*sz,none⟩))) w:=by
 unfold execOp
 cases hq:P.info? e with
 | none=>rw[hq]at hs;cases hs
 | some inf=>
  have a:inf.size=sz:=by rw[hq]at hs;exact Option.some.inj hs
  simp[hop,hx,hi,Instr.indexAt,asIntOf,run_underlying c,b,sizeOf,typeInfo,hq,a,Addr.add]
  try (intro d;simp[d])
theorem Aw {n:Nat} {todo:List Item} {E:Nat->Value} {w:World} {g off len cap k sz:Nat} {T e:TypeId} (dst:Option Tmp) (a:k<len) (b:P.underlying T=some (.slice e)) (h:At P f R (AD todo) (Fr n (A8 E dst (.pointer (some ⟨g,off+k*sz,none⟩)))) w) (hc:wu n E todo=some (T,.slice (some ⟨g,off,none⟩) len cap,J k,dst):=by kernel_rfl) (hs:(P.info? e).map (·.size)=some sz:=by kernel_rfl):At P f R todo (Fr n E) w:=by
 unfold wu at hc
 split at hc
 ·rename_i o hcur
  split at hc
  ·rename_i t x i ho
   simp only[Option.some.injEq,Prod.mk.injEq]at hc;obtain⟨rfl,hx,hi,rfl⟩:=hc;exact Om o hcur (v:=.pointer (some ⟨g,off+k*sz,none⟩)) (w':=w) (BJ t x i (hop:=ho) (hx:=hx) (hi:=hi) a b (hs:=hs)) h
  cases hc
 cases hc
end
def Hd (p:Op->Bool):List Item->Bool
 | .inRegion ops (i::_)::_=>match ops[i]? with
  | some o=>p o.op
  | none=>false
 | _=>false
def Aq (p:Op->Bool):Nat->List Item->Nat
 | 0,_=>0
 | m+1,t=>match Hd p t with
  | true=>0
  | false=>match OV t with
   | some t'=>Aq p m t'+1
   | none=>0
def GM:Op->Bool
 | .binOp .eql _ _ _ _=>true
 | _=>false
def Aa:Op->Bool
 | .indexAddr _ _ _=>true
 | _=>false
def Xf:Op->Bool
 | .slice _ _ _ _ _=>true
 | _=>false
def Cr:List Item->Oper
 | .inRegion ops (i::_)::_=>ops.getD i default
 | _=>default
def AP (v:Value):Nat:=match v with
 | .int _ n=>n.toNat
 | _=>0
theorem Bs (i:Nat) (h:i<=4294967296):IntKind.i64.wrap ((i:Int)+1)=((i+1:Nat):Int):=by rw[IntWalk.i64_in _ (by omega)];omega
theorem GF (w:World) (a b d c:Int):(binOp .eql 47 (.agg #[J a,J b]) (.agg #[J d,J c])).run Tryz.prog w=.ok (I (a==d&&b==c)) w:=by
 simp[go_sem]
 repeat' split
 all_goals simp_all
theorem JV (w:World) (a b c f e d:Int):(binOp .eql 63 (.agg #[J a,J b,J c]) (.agg #[J f,J e,J d])).run Tryz.prog w=.ok (I (a==f&&(b==e&&c==d))) w:=by
 simp[go_sem]
 repeat' split
 all_goals simp_all
theorem EZ (w:World) (t:Bool) (a b c:Int) (d:Bool) (g f e:Int):(binOp .eql 65 (.agg #[I t,J a,J b,J c]) (.agg #[I d,J g,J f,J e])).run Tryz.prog w=.ok (I (t==d&&(a==g&&(b==f&&c==e)))) w:=by
 simp[go_sem]
 repeat' split
 all_goals simp_all
theorem Lf (w:World) (a b d c:Int):(binOp .neq 47 (.agg #[J a,J b]) (.agg #[J d,J c])).run Tryz.prog w=.ok (I (!(a==d&&b==c))) w:=by
 simp[go_sem]
 repeat' split
 all_goals simp_all
theorem MA (w:World) (a b c f e d:Int):(binOp .neq 63 (.agg #[J a,J b,J c]) (.agg #[J f,J e,J d])).run Tryz.prog w=.ok (I (!(a==f&&(b==e&&c==d)))) w:=by
 simp[go_sem]
 repeat' split
 all_goals simp_all
theorem SG (w:World) (t:Bool) (a b c:Int) (d:Bool) (g f e:Int):(binOp .neq 65 (.agg #[I t,J a,J b,J c]) (.agg #[I d,J g,J f,J e])).run Tryz.prog w=.ok (I (!(t==d&&(a==g&&(b==f&&c==e))))) w:=by
 simp[go_sem]
 repeat' split
 all_goals simp_all
end Go.Proofs.YtkpemkkbjfbmaaaGreat

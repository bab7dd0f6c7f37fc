/-
  Part 42 of a proof: contracts of functions.
-/
import Derived.Test.YtmcpjkcggfmcmaaGreatDoorL20
import Derived.Test.YtmcpjkcggfmcmaaGreatDoorL28
import Derived.Test.YtmcpjkcggfmcmaaGreatDoorL14
import Derived.Test.YtmcpjkcggfmcmaaGreatDoorL38
import Derived.Test.YtmcpjkcggfmcmaaGreatDoorL40
import Derived.Test.YtmcpjkcggfmcmaaGreatDoorL37
import Derived.Test.YtmcpjkcggfmcmaaGreatDoorL41
set_option linter.all false
namespace Go.Proofs.YtmcpjkcggfmcmaaGreatDoor
noncomputable section
open Go.RowKit
set_option maxRecDepth 100000
set_option maxHeartbeats 1000000
attribute [local irreducible] BD Bb AF AG AL A4 Ai AO BO CV Di CC Bp At Fr
def RH (o:Op):Option (FuncId×List Operand):=match o with
 | .call ⟨.value (.func g),xs,_⟩=>some (g,xs.toList)
 | _=>none
theorem Yf {o:Op} {g:FuncId} {xs:List Operand} (h:RH o=some (g,xs)):∃ ats,o=.call ⟨.value (.func g),xs.toArray,ats⟩:=by
 unfold RH at h
 split at h
 ·rename_i g' xs' ats
  simp only [Option.some.injEq,Prod.mk.injEq] at h
  obtain ⟨rfl,rfl⟩:=h
  exact ⟨ats,rfl⟩
 ·cases h
theorem kI {P:Program} {f:FuncId} {R:Ending→World→Prop} {n:Nat} {todo:List Item} {E:Nat→Value} {w0 w:World} {M:List BM} {L T:List Th} (K:Wk w0 w M L T) {mem:List BM} (m:List Nat) (hints:List (Nat×Nat×Nat)) (specs:List Sp) (i:Nat) {g:FuncId} {xs:List Operand} {args:List Value} {Q:World→Ending→World→Prop}
  (hM:∀ e∈mem,e.good w) (hS:∀ sp∈specs,Fi P n (Below w.heap.size w) (BH todo) sp)
  (h:∀ u,Wk w0 u M L T→Calls P g args.toArray u (Q u)) (hk:∀ u e w',Wk w0 u M L T→Q u e w'→∃ v,e=.returned v∧At P f R (AO todo) (Fr n (BO (HZ P n (BH todo) mem hints specs m E) ((BH todo).getD i default).dst v)) w')
  (hd:(Gn todo).isSome=true:=by kernel_rfl) (hmo:P.follows .mixedOrders=true:=by kernel_rfl)
  (hok:(He .any (BH todo) (Iv (BH todo) m) (Array.replicate (BH todo).size false) n (IU P n (BH todo) mem hints specs m E) && bare (BH todo) (IU P n (BH todo) mem hints specs m E),m.all (KD P n (BH todo) mem hints specs m E),Nat.beq (m.length + 1) (BH todo).size)=(true,true,true):=by kernel_rfl)
  (hp:∀ X,XU P n (BH todo) mem hints specs m E X=Qr P n (BH todo) mem hints specs m E:=by intro _; kernel_rfl)
  (hc:(Region.ready .any (BH todo) (m.foldl (fun b i=>b.setIfInBounds i true) (Array.replicate (BH todo).size false)),Nat.blt i (BH todo).size,((BH todo).getD i default).guard,Region.ready .any (BH todo) ((m.foldl (fun b i=>b.setIfInBounds i true) (Array.replicate (BH todo).size false)).setIfInBounds i true),xs.map (BJ n (HZ P n (BH todo) mem hints specs m E)),DO P g,RH ((BH todo).getD i default).op)=([i],true,none,[],args,true,some (g,xs)):=by kernel_rfl):At P f R todo (Fr n E) w:=by
 simp only [Prod.mk.injEq] at hc
 obtain ⟨c1,c2,c3,c4,c5,c6,c7⟩:=hc
 obtain ⟨ats,hop⟩:=Yf c7
 refine Yk K m hints specs 1 hd hmo hM hS hok hp fun u Ku=>?_
 rw [Nat.blt_eq] at c2
 refine FG (fuel:=0) ((BH todo).getD i default) g xs args (hr:=c1) (ho:=by simp [Array.getD,c2]) (hgd:=c3) (hop:=hop) (ha:=c5) (hg:=c6) ((h u Ku).mono fun e w' hq=>?_)
 obtain ⟨v,rfl,ha⟩:=hk u e w' Ku hq
 exact ⟨v,rfl,DV (hr:=c4) ⟨rfl,ha.mid⟩⟩
theorem Wk.give {w0 w:World} {M:List BM} {L T:List Th} (K:Wk w0 w M L T) (is:List Nat) {M':List BM} {L':List Th} (h:is.map ((M.map Th.ent++(L++T))[·]?)=(M'.map Th.ent++(L'++[])).map some:=by rfl) (hn:is.Nodup:=by decide):Wk w0 w M' L' []:=⟨K.B,K.H.pick is h hn⟩
def F1 (i:Nat) (x:AJ):List UInt8:=[32,32]++Az (i:Int)++[32]++EH x.1 x.2.1 x.2.2.1 x.2.2.2.1 x.2.2.2.2.1 x.2.2.2.2.2++[10]
def H6:List AJ→Nat→List UInt8
 | [],_=>[]
 | x :: r,i=>F1 i x++H6 r (i + 1)
def QH (x:AJ):Prop:=(0≤x.2.1∧x.2.1 < 100)∧(0≤x.2.2.1∧x.2.2.1 < 100)∧(0≤x.2.2.2.1∧x.2.2.2.1 < 100)∧(0≤x.2.2.2.2.1∧x.2.2.2.2.1 < 100)∧(0≤x.2.2.2.2.2∧x.2.2.2.2.2 < 100)
theorem Nz (a b c d e f:Int):(EH a b c d e f).length≤40:=by
 have h1:=CD a; have h2:=CK b; have h3:=CK e; have h4:=CK f; have h5:=F3 c d
 unfold EH
 simp only [Bool.cond_eq_ite]
 repeat' split
 all_goals first | omega | (simp only [List.length_append,List.length_cons,List.length_nil]; omega)
theorem Me (i:Nat) (x:AJ):(F1 i x).length≤50:=by
 have h1:=CK (i:Int); have h2:=Nz x.1 x.2.1 x.2.2.1 x.2.2.2.1 x.2.2.2.2.1 x.2.2.2.2.2
 unfold F1
 simp only [List.length_append,List.length_cons,List.length_nil]
 omega
noncomputable def X9:Code:=Tryz.f28.body.getD .skip
def Zh:List Item:=AB 60 ([.code X9])
def Pn:List Item:=AB 60 (A4 Zh)
def Zg:List Item:=AB (As Ae 90 (AG Pn)) (AG Pn)
def iN:List Item:=AB (As XQ 90 (AF (AF Zg))) (AF (AF Zg))
def Zf:List Item:=AB 60 (AF (AF iN))
def Ze:List Item:=AB 60 (A4 Zf)
def iK:List Item:=AB (As Ae 90 (AG Ze)) (AG Ze)
def oC:List Item:=Ac 9 (AF (AF iK))
def iJ:List Item:=AB 60 (AL Pn)
def oB:List Item:=AB 60 (AF iJ)
theorem Rh (pA pB pC A:Option Addr) (nA nB nC a b d c:Nat) (e:Do) (w:World) (h_rts:rowsRt w A [e]) (hnm:e.1.length≤100) (hcs:e.2.2.2.2.2.length≤100) (hsm:∀ x∈e.2.2.2.2.2,QH x) (hNm:FT w) :
  Calls Tryz.prog 28 ([.agg ⟨[.slice pA nA a,.slice pB nB b,.slice pC nC d,.slice A 1 c]⟩]:List Value).toArray w fun en w'=>en=.returned (.string ⟨⟨e.1++[58,10]++H6 e.2.2.2.2.2 0⟩⟩)∧Below w.heap.size w w':=by
 obtain ⟨nm,pay,mode,num,den,cs⟩:=e
 simp only at hnm hcs hsm ⊢
 obtain ⟨gB,fB,rfl,hg,hall⟩:=h_rts.all (by simp)
 obtain ⟨A1,c1,hr0,hin⟩:=hall 0 _ rfl
 simp only at hin
 refine Ab (args:=[.agg ⟨[.slice pA nA a,.slice pB nB b,.slice pC nC d,.slice (some ⟨gB,fB,none⟩) 1 c]⟩]) (fn:=Tryz.f28) (c:=X9) (n:=39) ?_
 have K1:=Wk.start w
 refine Bv Zh [⟨w.heap.size,0,[.slice pA nA a,.slice pB nB b,.slice pC nC d,.slice (some ⟨gB,fB,none⟩) 1 c],43,true⟩,FU (w.heap.size + 1) none none 0 0] K1 [(0,3)] fun w1 K2=>?_
 refine fE (by kernel_rfl) ?_
 refine AC Pn K2 [] fun w2 K3=>?_
 refine AK true (fun _=>?_) (fun h=>by cases h)
 refine BA Ae Zg K3 [] fun w3 K4=>?_
 refine BB (g:=gB) (off:=fB) (cap:=c) (sz:=6) (k:=0) (len:=1) (some 13) (by decide) Tryz.underlying41 ?_
 refine Bc 49 gB (fB + 0 * 6) [.string ⟨⟨nm⟩⟩,.bool pay,.int .i64 mode,.int .i64 num,.int .i64 den,.slice A1 cs.length c1] (some 14) (Af hr0 hg K4.B) ?_
 refine CA XQ iN [⟨w.heap.size,0,[.slice pA nA a,.slice pB nB b,.slice pC nC d,.slice (some ⟨gB,fB,none⟩) 1 c],43,true⟩,FU (w.heap.size + 1) none none 0 0,⟨w3.heap.size,0,[.string ⟨⟨nm⟩⟩,.bool pay,.int .i64 mode,.int .i64 num,.int .i64 den,.slice A1 cs.length c1],49,true⟩] K4 [(2,0),(2,0)] fun w4 K5=>?_
 refine F5 (v:=.string ⟨⟨nm++[58,10]⟩⟩) (w':=w4) (BW (T:=9) (T':=9) (x:=.tmp 16) (y:=.const (.string ⟨⟨[58,10]⟩⟩)) (by simp only [List.length_cons,List.length_nil]; omega)) ?_
 have K6:Wk w w4 [⟨w3.heap.size,0,[.string ⟨⟨nm⟩⟩,.bool pay,.int .i64 mode,.int .i64 num,.int .i64 den,.slice A1 cs.length c1],49,true⟩] ([Th.ent (FU (w.heap.size + 1) none none 0 0),FC none 0 []]++[]) []:=(K5.addNil 5 1 (fun (e:UInt8) r=>r=SY e)).give [2,1,3]
 refine BX (Nl (bs:=[]) K6.B K6.front (.inl rfl) (nm++[58,10]) (by simp) (by simp only [List.length_append,List.length_cons,List.length_nil]; omega)) fun en w5 hh=>?_
 obtain ⟨A5,c5,rfl,b5,H5⟩:=hh
 refine ⟨_,rfl,?_⟩
 have K7:=Wk.unfront b5 H5
 refine AC Zf K7 [(0,5)] fun w6 K8=>?_
 have hlc:∀ n:Nat,n≤100→IntKind.i64.wrap ((n:Int) + 1)=((n + 1:Nat):Int):=fun n hn=>Bf n (by omega)
 refine Ax [(3,.pointer (some ⟨w.heap.size + 1,0,none⟩)),(9,.slice (some ⟨gB,fB,none⟩) 1 c),(10,.int .i64 1),(11,.int .i64 0),(20,.slice A1 cs.length c1),(21,.int .i64 (cs.length:Int)),(22,.int .i64 ((0:Nat):Int))] fun E6=>?_
 have K9:=K8.give [1,2] (M':=[]) (L':=[Th.ent (FU (w.heap.size + 1) (some ⟨w.heap.size + 1,0,none⟩) A5 (nm++[58,10]).length c5),FC A5 c5 (nm++[58,10])])
 refine Bj (by kernel_rfl) (fun E wx=>∃ (i:Nat) (A c2:_) (bs:List UInt8) (E0:Nat→Value),i≤cs.length∧E=CX E0 [(3,.pointer (some ⟨w.heap.size + 1,0,none⟩)),(9,.slice (some ⟨gB,fB,none⟩) 1 c),(10,.int .i64 1),(11,.int .i64 0),(20,.slice A1 cs.length c1),(21,.int .i64 (cs.length:Int)),(22,.int .i64 (i:Int))]∧bs++H6 (cs.drop i) i=nm++[58,10]++H6 cs 0∧bs.length≤102 + 50 * i∧Wk w wx [] [Th.ent (FU (w.heap.size + 1) (some ⟨w.heap.size + 1,0,none⟩) A bs.length c2),FC A c2 bs] []) (fun E _=>cs.length - AQ (E 22)) ⟨0,A5,c5,nm++[58,10],E6,Nat.zero_le _,rfl,rfl,by simp only [List.length_append,List.length_cons,List.length_nil]; omega,K9⟩ ?_
 rintro E wx ⟨i,A7,c7,bs,E0,hi,rfl,hbs,hbl,K10⟩ hagain
 refine AC Ze K10 [] fun w7 K11=>?_
 refine AK (decide ((i:Int) < (cs.length:Int))) (fun h1=>?_) (fun h1=>?_)
 ·have hlt:i < cs.length:=by have:=of_decide_eq_true h1; omega
  obtain ⟨x,hx⟩:∃ x,cs[i]?=some x:=⟨_,List.getElem?_eq_getElem hlt⟩
  obtain ⟨gC,fC,hA1,hgC,hallC⟩:=hin.all (Nat.lt_of_le_of_lt (Nat.zero_le _) hlt)
  subst hA1
  have hrx:=hallC i x hx
  obtain ⟨s1,s2,s3,s4,s5⟩:=hsm x (List.mem_of_getElem? hx)
  refine BA Ae iK K11 [] fun w8 K12=>?_
  refine BB (g:=gC) (off:=fC) (cap:=c1) (sz:=6) (k:=i) (len:=cs.length) (some 25) hlt Tryz.underlying47 ?_
  refine Bc 53 gC (fC + i * 6) (IB x) (some 26) (Af hrx hgC K12.B) ?_
  refine Bw 9 oC [⟨w8.heap.size,0,IB x,53,true⟩] K12 [(0,0)] fun w9 K13=>?_
  have hil:i < 100:=Nat.lt_of_lt_of_le hlt hcs
  have e1:=CK (i:Int); have e2:=Nz x.1 x.2.1 x.2.2.1 x.2.2.2.1 x.2.2.2.2.1 x.2.2.2.2.2
  refine kI K13 [0,1,2,3,4,5,6,7] [(4,0,0)] [⟨1,[(27,.int .i64 (i:Int))],.string ⟨⟨Az (i:Int)⟩⟩,true⟩,⟨2,[(28,.string ⟨⟨Az (i:Int)⟩⟩)],.string ⟨⟨[32,32]++Az (i:Int)⟩⟩,true⟩,⟨3,[(29,.string ⟨⟨[32,32]++Az (i:Int)⟩⟩)],.string ⟨⟨[32,32]++Az (i:Int)++[32]⟩⟩,true⟩,⟨5,[(31,.agg ⟨IB x⟩)],.string ⟨⟨EH x.1 x.2.1 x.2.2.1 x.2.2.2.1 x.2.2.2.2.1 x.2.2.2.2.2⟩⟩,true⟩,⟨6,[(30,.string ⟨⟨[32,32]++Az (i:Int)++[32]⟩⟩),(32,.string ⟨⟨EH x.1 x.2.1 x.2.2.1 x.2.2.2.1 x.2.2.2.2.1 x.2.2.2.2.2⟩⟩)],.string ⟨⟨[32,32]++Az (i:Int)++[32]++EH x.1 x.2.1 x.2.2.1 x.2.2.2.1 x.2.2.2.2.1 x.2.2.2.2.2⟩⟩,true⟩,⟨7,[(33,.string ⟨⟨[32,32]++Az (i:Int)++[32]++EH x.1 x.2.1 x.2.2.1 x.2.2.2.1 x.2.2.2.2.1 x.2.2.2.2.2⟩⟩)],.string ⟨⟨F1 i x⟩⟩,true⟩] 8 (g:=62) (xs:=[.tmp 3,.tmp 34]) (args:=[.pointer (some ⟨w.heap.size + 1,0,none⟩),.string ⟨⟨F1 i x⟩⟩]) K13.G (fun sp hsp=>?_) (fun u Ku=>Nl Ku.B (Wk.front (F:=[Th.ent (FU (w.heap.size + 1) (some ⟨w.heap.size + 1,0,none⟩) A7 bs.length c7),FC A7 c7 bs]) (Q:=[]) Ku) (.inr rfl) (F1 i x) (by unfold F1; simp) (by have:=Me i x; omega)) fun u en w10 Ku hh=>?_
  ·simp only [List.mem_cons,List.not_mem_nil,or_false] at hsp
   rcases hsp with rfl | rfl | rfl | rfl | rfl | rfl
   ·exact AR 63 [.tmp 27] [.int .i64 (i:Int)] (fun _=>by kernel_rfl) fun hc u hu=>AP hu (Dr (i:Int) ⟨by omega,by omega⟩ u)
   ·exact Av fun _ E u _=>BW (T:=9) (T':=9) (x:=.const (.string ⟨⟨[32,32]⟩⟩)) (y:=.tmp 28) (by simp only [List.length_cons,List.length_nil]; omega)
   ·exact Av fun _ E u _=>BW (T:=9) (T':=9) (x:=.tmp 29) (y:=.const (.string ⟨⟨[32]⟩⟩)) (by simp only [List.length_append,List.length_cons,List.length_nil]; omega)
   ·exact AR 64 [.tmp 31] [.agg ⟨IB x⟩] (fun _=>by kernel_rfl) fun hc u hu=>AP hu (ae x.1 x.2.1 x.2.2.1 x.2.2.2.1 x.2.2.2.2.1 x.2.2.2.2.2 u s1 s2 s3 s4 s5 (El hNm (K13.B.trans (hu.mono K13.B.size))))
   ·exact Av fun _ E u _=>BW (T:=9) (T':=9) (x:=.tmp 30) (y:=.tmp 32) (by simp only [List.length_append,List.length_cons,List.length_nil]; omega)
   ·exact Av fun _ E u _=>BW (T:=9) (T':=9) (x:=.tmp 33) (y:=.const (.string ⟨⟨[10]⟩⟩)) (by simp only [List.length_append,List.length_cons,List.length_nil]; omega)
  obtain ⟨A8,c8,rfl,b8,H8⟩:=hh
  refine ⟨_,rfl,?_⟩
  have K14:Wk w w10 [⟨w8.heap.size,0,IB x,53,true⟩] ([Th.ent (FU (w.heap.size + 1) (some ⟨w.heap.size + 1,0,none⟩) A8 (bs++F1 i x).length c8),FC A8 c8 (bs++F1 i x)]++[]) []:=Wk.unfront b8 H8
  refine AC (Ai Zf) K14 [] fun w11 K15=>?_
  refine Ax [(3,.pointer (some ⟨w.heap.size + 1,0,none⟩)),(9,.slice (some ⟨gB,fB,none⟩) 1 c),(10,.int .i64 1),(11,.int .i64 0),(20,.slice (some ⟨gC,fC,none⟩) cs.length c1),(21,.int .i64 (cs.length:Int)),(22,.int .i64 (IntKind.i64.wrap ((i:Int) + 1)))] fun E8=>?_
  rw [hlc i (by omega)]
  refine hagain _ _ ⟨i + 1,A8,c8,bs++F1 i x,E8,hlt,rfl,?_,?_,K15.give [1,2]⟩ ?_
  ·rw [← hbs,List.drop_eq_getElem_cons hlt,show cs[i]=x from (List.getElem?_eq_some_iff.1 hx).2,List.append_assoc]
   rfl
  ·have:=Me i x
   rw [List.length_append]
   omega
  ·show cs.length - AQ (.int .i64 ((i + 1:Nat):Int)) < cs.length - AQ (.int .i64 (i:Int))
   simp only [AQ]
   omega
 ·have hie:i=cs.length:=by have:=of_decide_eq_false h1; omega
  rw [hie,List.drop_length] at hbs
  refine AC (Ai Zh) K11 [] fun w8 K12=>?_
  refine bB (by kernel_rfl) ?_
  refine AC Pn K12 [] fun w9 K13=>?_
  refine AK false (fun h=>by cases h) (fun _=>?_)
  refine AC iJ K13 [] fun w10 K14=>?_
  have hbe:bs=nm++[58,10]++H6 cs 0:=by rw [← hbs]; simp [H6]
  refine BX (VI K14.H (by rw [hbe]; simp) (by omega)) fun en w11 hh=>?_
  obtain ⟨rfl,b11⟩:=hh
  refine ⟨_,rfl,?_⟩
  have K15:Wk w w11 [] [] []:=⟨K14.B.trans b11,AY.nil (Nat.le_trans K14.size b11.size)⟩
  refine AC oB K15 [] fun w12 K16=>?_
  exact Aa K16 (0,0) (.string ⟨⟨bs⟩⟩) ⟨by rw [hbe],K16.B⟩
end
end Go.Proofs.YtmcpjkcggfmcmaaGreatDoor
namespace Go.Proofs.YtmcpjkcggfmcmaaGreatDoor
noncomputable section
open Go.RowKit
set_option maxRecDepth 100000
set_option maxHeartbeats 1000000
attribute [local irreducible] BD Bb AF AG AL A4 Ai AO BO CV Di CC Bp At Fr
def Li:Ex:=.mk 1 2 1 0 0 0 [] 0 0 []
def Lg:Ex:=.mk 3 0 0 0 0 0 [98] 0 0 []
def Lh:Ex:=.mk 3 0 0 0 0 0 [97] 0 0 []
def Lj:Ex:=.mk 7 0 0 0 0 0 [] 0 0 [Li,Lg]
def Vf:Ex:=.mk 5 0 0 0 0 0 [] 0 0 [Lh,Lj]
def av:Ex:=.mk 0 0 0 0 0 0 [] 0 0 []
def EV (n:UInt8):Df:=⟨1,[n],false,0,0,0,0,[],av,0,0,0⟩
def Lk:Df:=⟨3,[114],false,0,0,0,0,[],Vf,0,0,0⟩
def GP:List Df:=[EV 97,EV 98,Lk]
def MQ:List AJ:=[(2,0,0,0,0,0),(1,0,2,1,0,0),(2,1,0,0,0,0),(7,0,0,0,0,0),(5,0,0,0,0,0)]
def I8:Do:=([114],false,0,0,0,MQ)
theorem mw:Bs [109] GP 0=([[97],[98]],[],[],[I8],0):=by kernel_rfl
theorem mv:(Bs [109] GP (-1)).2.2.2.2=2:=by kernel_rfl
theorem fT:Bl [[97],[98]] [] [] [I8]=true:=by kernel_rfl
theorem kN:I8.1++[58,10]++H6 MQ 0=[114,58,10,32,32,48,32,105,110,112,117,116,32,48,10,32,32,49,32,112,117,115,104,32,50,10,32,32,50,32,105,110,112,117,116,32,49,10,32,32,51,32,109,117,108,10,32,32,52,32,97,100,100,10]:=by kernel_rfl
theorem GK (w:World):rowsEx w none []:=⟨[],rfl,.inl rfl⟩
theorem GQ (w:World):C1 w none []:=.inl rfl
theorem QI {w:World} {b:Nat} (g1:BM.good w ⟨b,0,[Bo Li none 0,Bo Lg none 0].flatten,32,true⟩) (g2:BM.good w ⟨b + 1,0,[Bo Lh none 0,Bo Lj (some ⟨b,0,none⟩) 2].flatten,32,true⟩) (g4:BM.good w ⟨b + 3,0,[Be (EV 97) none 0 none 0,Be (EV 98) none 0 none 0,Be Lk none 0 (some ⟨b + 1,0,none⟩) 2].flatten,34,true⟩):rowsDf w (some ⟨b + 3,0,none⟩) GP:=by
 have h1:rowsEx w (some ⟨b,0,none⟩) [Li,Lg]:=⟨[Bo Li none 0,Bo Lg none 0],⟨_,_,rfl,Iy (GK w),_,_,rfl,Iy (GK w),rfl⟩,D2 (by simp) g1⟩
 have h2:rowsEx w (some ⟨b + 1,0,none⟩) [Lh,Lj]:=⟨[Bo Lh none 0,Bo Lj (some ⟨b,0,none⟩) 2],⟨_,_,rfl,Iy (GK w),_,_,rfl,Iy h1,rfl⟩,D2 (by simp) g2⟩
 exact ⟨[Be (EV 97) none 0 none 0,Be (EV 98) none 0 none 0,Be Lk none 0 (some ⟨b + 1,0,none⟩) 2],⟨_,_,rfl,F4 (GQ w) (GK w),_,_,rfl,F4 (GQ w) (GK w),_,_,rfl,F4 (GQ w) h2,rfl⟩,D2 (by simp) g4⟩
theorem j7:∀ x∈MQ,QH x:=by
 intro x hx
 simp only [MQ,List.mem_cons,List.not_mem_nil,or_false] at hx
 rcases hx with rfl | rfl | rfl | rfl | rfl <;> simp [QH]
noncomputable def X4:Code:=Tryz.f10.body.getD .skip
def hD:List Item:=AB 60 ([.code X4])
def g9:List Item:=AB 60 (AF hD)
def g8:List Item:=Ac 5 (AF g9)
def n0:List Item:=AB 60 (AO g8)
theorem LN (w:World) (hNm:FT w):Calls Tryz.prog 10 ([]:List Value).toArray w fun e w'=>e=.returned (.bool true)∧Below w.heap.size w w':=by
 refine Ab (args:=[]) (fn:=Tryz.f10) (c:=X4) (n:=46) ?_
 have K1:=Wk.start w
 refine Bv hD [⟨w.heap.size,0,[Bo Li none 0,Bo Lg none 0].flatten,32,true⟩,⟨w.heap.size + 1,0,[Bo Lh none 0,Bo Lj (some ⟨w.heap.size,0,none⟩) 2].flatten,32,true⟩,⟨w.heap.size + 2,0,Bo Vf (some ⟨w.heap.size + 1,0,none⟩) 2,32,true⟩,⟨w.heap.size + 3,0,[Be (EV 97) none 0 none 0,Be (EV 98) none 0 none 0,Be Lk none 0 (some ⟨w.heap.size + 1,0,none⟩) 2].flatten,34,true⟩,⟨w.heap.size + 4,0,[.string ⟨⟨[109]⟩⟩,.slice (some ⟨w.heap.size + 3,0,none⟩) 3 3],38,true⟩] K1 [(2,0),(2,0),(4,0),(4,0)] fun w1 K2=>?_
 have f1:∀ d∈GP,GB d:=by
  intro d hd
  simp only [GP,List.mem_cons,List.not_mem_nil,or_false] at hd
  rcases hd with rfl | rfl | rfl <;> simp [GB,EV,Lk,av,Vf,Lh,Lj,Li,Lg,DT,GZ]
 have f2:∀ d∈GP,d.ents.length≤4294967296:=by
  intro d hd
  simp only [GP,List.mem_cons,List.not_mem_nil,or_false] at hd
  rcases hd with rfl | rfl | rfl <;> simp [EV,Lk]
 have f3:∀ d∈GP,nE d.body≤1000000:=by
  intro d hd
  simp only [GP,List.mem_cons,List.not_mem_nil,or_false] at hd
  rcases hd with rfl | rfl | rfl <;> decide
 refine BX (Ie [109] _ GP 3 0 w1 (QI (K2.ent 0 rfl) (K2.ent 1 rfl) (K2.ent 3 rfl)) (by decide) (by decide) f1 (by decide) f2 (fun d hd=>(f1 d hd).1) f3) fun en w2 hh=>?_
 rw [mw] at hh
 obtain ⟨A0,c0,A1,c1,x1,A2,c2,A3,c3,x3,rfl,q1,q3,b2,H2⟩:=hh
 refine ⟨_,rfl,?_⟩
 obtain rfl:x1=[]:=List.map_eq_nil_iff.1 q1
 have l3:x3.length=1:=by have:=congrArg List.length q3; simpa using this
 rw [l3]
 have K3:=K2.join b2 H2
 refine Bv g9 [⟨w.heap.size,0,[Bo Li none 0,Bo Lg none 0].flatten,32,true⟩,⟨w.heap.size + 1,0,[Bo Lh none 0,Bo Lj (some ⟨w.heap.size,0,none⟩) 2].flatten,32,true⟩,⟨w.heap.size + 2,0,Bo Vf (some ⟨w.heap.size + 1,0,none⟩) 2,32,true⟩,⟨w.heap.size + 3,0,[Be (EV 97) none 0 none 0,Be (EV 98) none 0 none 0,Be Lk none 0 (some ⟨w.heap.size + 1,0,none⟩) 2].flatten,34,true⟩,⟨w.heap.size + 4,0,[.string ⟨⟨[109]⟩⟩,.slice (some ⟨w.heap.size + 3,0,none⟩) 3 3],38,true⟩,⟨w2.heap.size,0,[.slice A0 2 c0,.slice A1 0 c1,.slice A2 0 c2,.slice A3 1 c3],43,true⟩] K3 [(5,0),(4,0)] fun w3 K4=>?_
 refine BX (Ie [109] _ GP 3 (-1) w3 (QI (K4.ent 0 rfl) (K4.ent 1 rfl) (K4.ent 3 rfl)) (by decide) (by decide) f1 (by decide) f2 (fun d hd=>(f1 d hd).1) f3) fun en w4 hh=>?_
 rw [mv] at hh
 obtain ⟨_,_,_,_,_,_,_,_,_,_,rfl,_,_,b4,_⟩:=hh
 refine ⟨_,rfl,?_⟩
 have K5:=K4.below b4
 refine fF 5 g8 K5 [(6,0)] fun w5 K6=>?_
 have K7:Wk w w5 [⟨w2.heap.size,0,[.slice A0 2 c0,.slice A1 0 c1,.slice A2 0 c2,.slice A3 1 c3],43,true⟩] [Bg A0 c0 [[97],[98]],D1 A1 c1 [],DS [],Bg A2 c2 [],Fv A3 c3 x3,Ef x3] []:=K6.pk [5] [0,1,2,3,4,5]
 have hR:∀ u,Below w5.heap.size w5 u→rowsRt u A3 [I8]:=fun u hu=>by
  have:=(K7.H.rowsRt 5 6 rfl rfl).below hu
  rwa [q3] at this
 refine Aj K7 [(7,0,0),(11,0,0)] [⟨8,[(38,.agg ⟨[.slice A0 2 c0,.slice A1 0 c1,.slice A2 0 c2,.slice A3 1 c3]⟩)],.bool true,true⟩,⟨12,[(42,.agg ⟨[.slice A0 2 c0,.slice A1 0 c1,.slice A2 0 c2,.slice A3 1 c3]⟩)],.string ⟨⟨[114,58,10,32,32,48,32,105,110,112,117,116,32,48,10,32,32,49,32,112,117,115,104,32,50,10,32,32,50,32,105,110,112,117,116,32,49,10,32,32,51,32,109,117,108,10,32,32,52,32,97,100,100,10]⟩⟩,true⟩,⟨13,[(43,.string ⟨⟨[114,58,10,32,32,48,32,105,110,112,117,116,32,48,10,32,32,49,32,112,117,115,104,32,50,10,32,32,50,32,105,110,112,117,116,32,49,10,32,32,51,32,109,117,108,10,32,32,52,32,97,100,100,10]⟩⟩)],.bool true,true⟩] K7.G (fun sp hsp=>?_) fun w6 E6 K8=>?_
 ·simp only [List.mem_cons,List.not_mem_nil,or_false] at hsp
  rcases hsp with rfl | rfl | rfl
  ·exact AR 9 [.tmp 38] [.agg ⟨[.slice A0 2 c0,.slice A1 0 c1,.slice A2 0 c2,.slice A3 1 c3]⟩] (fun _=>by kernel_rfl) fun hc u hu=>AP hu (by
    have:=FO A0 [[97],[98]] c0 A1 [] c1 A2 [] c2 A3 [I8] c3 u ((K7.H.rowsStr 1 rfl).below hu) (by decide) ((K7.H.rowsSc 2 3 rfl rfl).below hu) (by decide) ((K7.H.rowsStr 4 rfl).below hu) (by decide) (hR u hu) (by decide) (fun e he=>by cases he) (fun e he=>by rw [List.mem_singleton.1 he]; decide)
    rw [fT] at this
    exact this)
  ·exact AR 28 [.tmp 42] [.agg ⟨[.slice A0 2 c0,.slice A1 0 c1,.slice A2 0 c2,.slice A3 1 c3]⟩] (fun _=>by kernel_rfl) fun hc u hu=>AP hu (by
    have:=Rh A0 A1 A2 A3 2 0 0 c0 c1 c2 c3 I8 u (hR u hu) (by decide) (by decide) j7 (El hNm (K7.B.trans (hu.mono K7.B.size)))
    rw [show I8.2.2.2.2.2=MQ from rfl,kN] at this
    exact this)
  ·exact Av fun _ E u _=>GH (T:=9) (T':=9) (x:=.tmp 43) (y:=.const (.string ⟨⟨[114,58,10,32,32,48,32,105,110,112,117,116,32,48,10,32,32,49,32,112,117,115,104,32,50,10,32,32,50,32,105,110,112,117,116,32,49,10,32,32,51,32,109,117,108,10,32,32,52,32,97,100,100,10]⟩⟩)) (a:=[114,58,10,32,32,48,32,105,110,112,117,116,32,48,10,32,32,49,32,112,117,115,104,32,50,10,32,32,50,32,105,110,112,117,116,32,49,10,32,32,51,32,109,117,108,10,32,32,52,32,97,100,100,10]) (b:=[114,58,10,32,32,48,32,105,110,112,117,116,32,48,10,32,32,49,32,112,117,115,104,32,50,10,32,32,50,32,105,110,112,117,116,32,49,10,32,32,51,32,109,117,108,10,32,32,52,32,97,100,100,10])
 refine AC n0 K8 [] fun w7 K9=>?_
 exact Aa K9 (0,0) (.bool true) ⟨rfl,K9.B⟩
end
end Go.Proofs.YtmcpjkcggfmcmaaGreatDoor
namespace Go.Proofs.YtmcpjkcggfmcmaaGreatDoor
open Go.RowKit
set_option maxRecDepth 100000
set_option maxHeartbeats 1000000
def JV (m:Nat):Df:=⟨3,[114],false,0,0,0,0,[],Ev m,0,0,0⟩
def H7 (m:Nat):List Df:=[EV 97,JV m]
def GG (m:Nat):List AJ:=AV [([97],0)] [] [] [([114],0)] (Ev m).height (Ev m) 0
def HO (m:Nat):Do:=([114],false,0,0,0,GG m)
theorem mf:Bs [109] (H7 10) 0=([[97]],[],[],[HO 10],0):=by kernel_rfl
theorem me:Bs [109] (H7 11) 0=([[97]],[],[],[HO 11],0):=by kernel_rfl
theorem mc:Bs [109] (H7 12) 0=([],[],[],[],3):=by kernel_rfl
theorem O1:(GG 10).length=2047:=by kernel_rfl
theorem O0:(GG 11).length=4095:=by kernel_rfl
theorem mm (b:Bool):CR [[97]] [] [] [HO 10] 0 b (GG 10) 0=b:=by kernel_rfl
theorem mj (b:Bool):CR [[97]] [] [] [HO 11] 0 b (GG 11) 0=b:=by kernel_rfl
theorem mo:CL (GG 10)=true:=Q1 _ _ _ _ (Ev 10) ⟨32,by kernel_rfl⟩ (by decide +kernel) (by show (GG 10).length≤_; rw [O1]; decide)
theorem mn:CL (GG 11)=true:=Q1 _ _ _ _ (Ev 11) ⟨32,by kernel_rfl⟩ (by decide +kernel) (by show (GG 11).length≤_; rw [O0]; decide)
theorem Sh {ins:List (List UInt8)} (c:List AJ) (hi:ins.length≤128) (hl:c.length≤4096) (h2:∀ b,CR ins [] [] [([114],false,0,0,0,c)] 0 b c 0=b) (hb:CL c=true):Bl ins [] [] [([114],false,0,0,0,c)]=true:=by
 unfold Bl
 rw [C5,CS,h2,hb,CS]
 have e1:decide (4096 < (c.length:Int))=false:=decide_eq_false (by omega)
 have e0:decide (128 < (ins.length:Int))=false:=decide_eq_false (by omega)
 dsimp only
 rw [e0,e1]
 rfl
theorem m3 {ins:List (List UInt8)} (c:List AJ) (hi:ins.length≤128) (hl:4096 < c.length):Bl ins [] [] [([114],false,0,0,0,c)]=false:=by
 unfold Bl
 rw [C5,CS]
 have e1:decide (4096 < (c.length:Int))=true:=decide_eq_true (by omega)
 have e0:decide (128 < (ins.length:Int))=false:=decide_eq_false (by omega)
 dsimp only
 rw [e0,e1]
 rfl
theorem mb:Bl [[97]] [] [] [HO 10]=true:=Sh (GG 10) (by decide) (by rw [O1]; decide) mm mo
theorem ma:Bl [[97]] [] [] [HO 11]=true:=Sh (GG 11) (by decide) (by rw [O0]; decide) mj mn
def XB:Do:=([114],false,0,0,0,[(1,0,0,1,0,0)])
theorem pF (k:Nat) (hk:k≤2):Bl [] [] [] (List.replicate (127 + k) XB)=decide (k < 2):=by
 obtain rfl | rfl | rfl:k=0∨k=1∨k=2:=by omega
 ·kernel_rfl
 ·kernel_rfl
 ·kernel_rfl
def DI (n:Nat):List AJ:=(1,0,0,1,0,0) :: List.replicate n (14,0,0,0,0,0)
theorem LX {cs:List AJ}:∀ (n i:Nat),Cr cs (List.replicate (n + 1) (14,0,0,0,0,0)) i 1 1
 | 0,i=>Cr.one (by decide) (by decide) (by decide) (by decide) (by decide) (by decide) (by decide) (by decide) (by decide) (by decide)
 | n + 1,i=>(Cr.app (c1:=[(14,0,0,0,0,0)]) (c2:=List.replicate (n + 1) (14,0,0,0,0,0)) (by decide) (by simp) (LX 0 i) (LX n (i + 1))).cast (by rw [List.replicate_succ (n:=n + 1)]; rfl) rfl
theorem Qg (n:Nat) (hn:n≤5000):CL (DI (n + 1))=true:=
 Yh (by simp [DI]) (by simp [DI]; omega) ((Cr.app (c1:=[(1,0,0,1,0,0)]) (c2:=List.replicate (n + 1) (14,0,0,0,0,0)) (by decide) (by simp) (Cr.one (by decide) (by decide) (by decide) (by decide) (by decide) (by decide) (by decide) (by decide) (by decide) (by decide)) (LX n 1)).cast rfl rfl)
theorem mh (b:Bool):CR [] [] [] [([114],false,0,0,0,DI 4094)] 0 b (DI 4094) 0=b:=by kernel_rfl
theorem mg (b:Bool):CR [] [] [] [([114],false,0,0,0,DI 4095)] 0 b (DI 4095) 0=b:=by kernel_rfl
theorem VT (k:Nat) (hk:k≤2):Bl [] [] [] [([114],false,0,0,0,DI (4094 + k))]=decide (k < 2):=by
 obtain rfl | rfl | rfl:k=0∨k=1∨k=2:=by omega
 ·exact Sh (DI 4094) (by decide) (by simp [DI]) mh (Qg 4093 (by decide))
 ·exact Sh (DI 4095) (by decide) (by simp [DI]) mg (Qg 4094 (by decide))
 ·exact m3 (DI 4096) (by decide) (by simp [DI])
end Go.Proofs.YtmcpjkcggfmcmaaGreatDoor

/- Contracts of functions, part 43. -/
import Derived.Test.YtkjbdagicjbjjaaGreatTs42
set_option linter.all false
namespace Go.Proofs.YtkjbdagicjbjjaaGreat
open Go.RowKit
set_option maxRecDepth 100000
theorem Pj {F:Df→Bool}:∀ (l:List Df) (i:Nat) (a:Int),(∀ x∈l,F x=false)→Co F l i a=-1
 | [],_,_,_=>by rw [Co]
 | e :: l,i,a,h=>by
  rw [Co,h e (by simp)]
  exact Pj l (i + 1) a fun x hx=>h x (by simp [hx])
theorem PB {F:Df→Bool} {l:List Df} (h:∀ x∈l,F x=false):DL F l=false:=by
 unfold DL AJ
 rw [Pj l 0 0 h]
 rfl
theorem mH:∀ i,i < 4→Ng.getD i []≠[110,101,119]∧(Ng.getD i []=[114,49]→i=0)
 | 0,_ | 1,_ | 2,_ | 3,_=>⟨by decide,by decide⟩
 | _ + 4,h=>absurd h (by omega)
theorem mI:∀ i,i < 2→RB.getD i []≠[110,101,119]∧RB.getD i []≠[114,49]
 | 0,_ | 1,_=>⟨by decide,by decide⟩
 | _ + 2,h=>absurd h (by omega)
theorem Lx {d:Df} (h:I3 3 false d):d.name≠[110,101,119]:=by
 cases h with
 | ins d hd=>
  simp only [Fm,List.mem_cons,List.not_mem_nil,or_false] at hd
  rcases hd with rfl | rfl | rfl | rfl | rfl <;> decide
 | sc nm t frm es h hf he=>
  show nm≠_
  rcases h with ⟨rfl,_⟩ | ⟨rfl,_⟩ <;> decide
 | rule i frm x n hi hf hn hx=>exact (mH i hi).1
 | pay i x mode q hi h0 h6 hq hx=>exact (mI i hi).1
theorem ABG {d:Df} (h:I3 3 false d) (hn:d.name=[114,49]):∃ frm x,d=Gk 0 frm x∧(frm=20454∨frm=20459):=by
 cases h with
 | ins d hd=>
  simp only [Fm,List.mem_cons,List.not_mem_nil,or_false] at hd
  rcases hd with rfl | rfl | rfl | rfl | rfl <;> exact absurd hn (by decide)
 | sc nm t frm es h hf he=>
  replace hn:nm=[114,49]:=hn
  rcases h with ⟨rfl,_⟩ | ⟨rfl,_⟩ <;> exact absurd hn (by decide)
 | rule i frm x n hi hf hn2 hx=>
  obtain rfl:=(mH i hi).2 hn
  exact ⟨frm,x,rfl,hf⟩
 | pay i x mode q hi h0 h6 hq hx=>exact absurd hn (mI i hi).2
theorem hY (t:Ty):Gc t.1 t.2.1 t.2.2.1 t.2.2.2 t.1 t.2.1 t.2.2.1 t.2.2.2=0:=by
 unfold Gc
 rw [beq_self_eq_true,beq_self_eq_true,beq_self_eq_true,beq_self_eq_true]
 cases t.1 <;> rfl
theorem wZ (d:Df):Ai d.kind d.tb d.tm d.th d.td=Jf d:=by
 unfold Ai Jf
 cases d.kind == 4 <;> rfl
theorem wc {d:Df} {ns ss a:List Df} (hd:M7 d) (c:d.kind=3∨d.kind=4) (e:∀ n,Tab n ns ss a):Cz d ns ss a=0∧DV d.body=true:=by
 obtain ⟨n,h,hx,f,b⟩:=hd.bod c
 have hv:DV d.body=true:=PH hx 32 (by omega) b
 have hu:Bj d.body ns ss a=M8 (Jf d):=by
  unfold Bj
  rw [hv]
  exact iQ (e n) hx b
 refine ⟨?_,hv⟩
 unfold Cz
 rw [hu,wZ]
 exact hY (Jf d)
theorem wH {d:Df} {ns:List Df} (hd:M7 d) (c:d.kind=5) (hn:∀ q∈ns,M7 q∧Hg q=true):Cp d ns=0:=by
 unfold Cp Δ AJ
 rw [Pj ns 0 0 fun q b=>?_]
 ·rfl
 refine decide_eq_false fun e=>?_
 have a:=(hn q b).1.nam (ZD (hn q b).2)
 rw [e] at a
 rcases hd.pas c with ⟨h2,_⟩ | ⟨h2,_⟩ <;> rw [h2] at a <;> cases a
theorem PF (bs:List Df):∀ (es:List Df) (i:Nat) (a:List (Int×Int)),(∀ (j:Nat) e,es[j]?=some e→DL (fun x=>Eb x e) (bs.take (i + j))=false∧(e.kind=5→Cp e (AW bs).1=0)∧(e.kind=3∨e.kind=4→Cz e (AW bs).1 (AW bs).2.1 (AW bs).2.2=0))→CF bs es i a=(a,0)
 | [],_,_,_=>by rw [CF]
 | e :: es,i,a,h=>by
  obtain ⟨f,h2,d⟩:=h 0 e rfl
  have b:=PF bs es (i + 1) a fun j x hx=>by
   have:=h (j + 1) x (by simpa using hx)
   rwa [show i + (j + 1)=i + 1 + j by omega] at this
  rw [CF,show DL (fun x=>Eb x e) (bs.take i)=false from f]
  simp only [cond_false]
  cases h5:e.kind == 5
  ·simp only [cond_false]
   cases h34:(cond (e.kind == 3) (true) (e.kind == 4))
   ·exact b
   have c:e.kind=3∨e.kind=4:=by
    cases h6:e.kind == 3
    ·rw [h6] at h34; exact .inr (eq_of_beq h34)
    exact .inl (eq_of_beq h6)
   rw [d c]
   exact b
  rw [h2 (eq_of_beq h5)]
  exact b
theorem NL:∀ (l m:List Df),C2 l=true→C2 m=true→C2 (l++m)=true
 | [],_,_,h=>h
 | e :: l,m,h,hm=>by
  rw [C2] at h
  rw [List.cons_append,C2]
  cases hc:(cond (!(Tk.isName e.name)) true (!(Fg e)))
  ·rw [hc] at h
   exact NL l m h hm
  rw [hc] at h; cases h
theorem oI {n:List UInt8} {ds:List Df} {day:Int} (a:CJ n ds day=0):C2 ds=true:=by
 have hv:EK n ds=true:=by
  refine JQ ?_
  unfold CJ at a
  cases hc:!((Ca n ds).2 == 0)
  ·rfl
  rw [hc] at a
  exact absurd a (bn hc)
 unfold EK at hv
 cases hc:cond (!(Tk.isName n)) true (decide (128 < (ds.length:Int)))
 ·rw [hc] at hv; exact hv
 rw [hc] at hv; cases hv
set_option linter.unusedSectionVars false
section
variable {ds:List Df} {x y:Ex} (hok:∀ d∈ds,I3 3 false d) (hl:ds.length≤30) (hx:CT 5 3 BC x) (hy:CT 1 2 BU y)
include hok hx hy
theorem AEn:∀ d∈ds++[BW x,Bb y],M7 d:=fun d hd=>by
 rcases List.mem_append.1 hd with hd | hd
 ·exact vp (hok d hd)
 rcases List.mem_cons.1 hd with rfl | hd
 ·exact ⟨.inr (.inr (.inl rfl)),fun _=>rfl,fun h=>absurd (show (3:Int)=2 from h) (by decide),fun h=>absurd (show (3:Int)=5 from h) (by decide),fun _=>⟨5,3,hx,Nat.le_refl _,(by decide:BC∈EG)⟩⟩
 rw [List.mem_singleton.1 hd]
 exact ⟨.inr (.inr (.inl rfl)),fun _=>rfl,fun h=>absurd (show (3:Int)=2 from h) (by decide),fun h=>absurd (show (3:Int)=5 from h) (by decide),fun _=>⟨1,2,hy,by decide,(by decide:BU∈EG)⟩⟩
include hl
theorem Px (g:CJ Af ds 20464=0):EK Af (ds++[BW x,Bb y])=true:=by
 have c:DV x=true:=PH hx 32 (by decide) (by decide)
 have b:DV y=true:=PH hy 32 (by decide) (by decide)
 have d:C2 [BW x,Bb y]=true:=by
  have i:Fg (BW x)=true:=by
   unfold Fg BW
   cases x
   unfold DQ
   rw [c]
   kernel_rfl
  have h:Fg (Bb y)=true:=by
   unfold Fg Bb
   cases y
   unfold DQ
   rw [b]
   kernel_rfl
  have f:Tk.isName (BW x).name=true:=by kernel_rfl
  have e:Tk.isName (Bb y).name=true:=by kernel_rfl
  rw [C2,C2,i,h,f,e]
  rfl
 unfold EK
 have a:decide (128 < ((ds++[BW x,Bb y]).length:Int))=false:=decide_eq_false (by rw [List.length_append]; show ¬ (128:Int) < ((ds.length + 2:Nat):Int); omega)
 rw [a]
 have hm:Tk.isName Af=true:=by kernel_rfl
 rw [hm]
 exact NL ds _ (oI g) d
theorem qR (hf:SZ ds) (h:CJ Af ds 20464=0):Ca Af (ds++[BW x,Bb y])=([],0):=by
 have hb:=AEn hok hx hy
 have l:=wu hf hb (fun d hd=>List.mem_append_left _ hd)
 unfold Ca
 rw [Px hok hl hx hy h]
 refine PF _ _ 0 [] fun j e he=>?_
 have hm:=List.mem_of_getElem? he
 refine ⟨?_,fun m=>wH (hb e hm) m fun q a=>?_,fun g=>(wc (hb e hm) g l).1⟩
 ·rw [Nat.zero_add]
  by_cases hj:j < ds.length
  ·rw [List.take_append_of_le_length (by omega)]
   exact (Ma h).1 j e (by rwa [List.getElem?_append_left hj] at he)
  have c:j=ds.length∨j=ds.length + 1:=by
   have:=(List.getElem?_eq_some_iff.1 he).1
   rw [List.length_append] at this
   have:j < ds.length + 2:=this
   omega
  rcases c with rfl | rfl
  ·rw [List.getElem?_append_right (Nat.le_refl _),Nat.sub_self] at he
   obtain rfl:=Option.some.inj he
   rw [List.take_left']
   ·refine PB fun q a=>?_
    show EZ q (BW x)=false
    unfold EZ
    rw [decide_eq_false (show ¬ q.name=(BW x).name from Lx (hok q a))]
    rfl
   rfl
  rw [List.getElem?_append_right (Nat.le_succ _),show ds.length + 1 - ds.length=1 by omega] at he
  obtain rfl:=Option.some.inj he
  refine PB fun q a=>?_
  show EZ q (Bb y)=false
  have b:q∈ds∨q=BW x:=by
   rw [List.take_append,List.take_of_length_le (Nat.le_succ _),show ds.length + 1 - ds.length=1 by omega] at a
   rcases List.mem_append.1 a with a | a
   ·exact .inl a
   exact .inr (List.mem_singleton.1 a)
  rcases b with b | rfl
  ·by_cases hn:q.name=[114,49]
   ·obtain ⟨frm,z,rfl,f⟩:=ABG (hok q b) hn
    rcases f with rfl | rfl <;> rfl
   unfold EZ
   rw [decide_eq_false (show ¬ q.name=(Bb y).name from hn)]
   rfl
  rfl
 have n:(AW (ds++[BW x,Bb y])).1=(ds++[BW x,Bb y]).filter Hg:=by
  unfold AW
  rw [F8]
  simp
 rw [n] at a
 obtain ⟨k,i⟩:=List.mem_filter.1 a
 exact ⟨hb q k,i⟩
end
theorem FT {ds m:List Df} {i:Nat} (h:i < ds.length):(ds++m).getD i default=ds.getD i default:=by
 rw [List.getD_eq_getElem?_getD,List.getD_eq_getElem?_getD,List.getElem?_append_left h]
theorem Pw {ds:List Df} {e:Df} {es:List Df} {i:Nat} (he:e :: es=ds.drop i):i < ds.length∧ds.getD i default=e∧es=ds.drop (i + 1):=by
 have a:i < ds.length:=by
  have:=congrArg List.length he
  rw [List.length_cons,List.length_drop] at this
  omega
 have b:=List.getElem_cons_drop a
 rw [← he] at b
 obtain ⟨c,h2⟩:=List.cons.inj b
 exact ⟨a,by rw [List.getD_eq_getElem?_getD,List.getElem?_eq_getElem a,c]; rfl,h2.symm⟩
theorem M6 {ds:List Df} {day:Int}:∀ (es:List Df) (i:Nat) (a:List Nat),es=ds.drop i→Ck ds day es i a=a++(List.range' i es.length).filter (GJ ds day)
 | [],i,a,_=>by rw [Ck]; simp
 | e :: es,i,a,he=>by
  obtain ⟨_,hd,h2⟩:=Pw he
  have b:GJ ds day i=cond (cond (e.kind == 1) (true) (e.kind == 5)) (true) (cond (decide (e.frm≤day)) (!(Cr ds day i)) (false)):=by unfold GJ; rw [hd]
  rw [Ck,← b,List.length_cons,List.range'_succ,List.filter_cons]
  cases hc:GJ ds day i
  ·simp only [cond_false]
   rw [M6 es (i + 1) a h2]
   rfl
  simp only [cond_true]
  rw [M6 es (i + 1) (a++[i]) h2,List.append_assoc]
  rfl
theorem JS (ds:List Df) (day:Int):Aa ds day=(List.range' 0 ds.length).filter (GJ ds day):=by
 unfold Aa
 rw [M6 ds 0 [] (by simp),List.nil_append]
theorem M4 {ds:List Df} {day:Int} {i:Nat}:i∈Aa ds day↔i < ds.length∧GJ ds day i=true:=by
 rw [JS,List.mem_filter,List.mem_range'_1]
 simp
theorem YF (ds:List Df) (day:Int):(Aa ds day).Nodup:=by
 rw [JS]
 exact (List.nodup_range' (s:=0) (n:=ds.length)).filter _
theorem Sl {ds bs:List Df} {day:Int} {i:Nat} (h:ds.getD i default=bs.getD i default):∀ (es:List Df) (b:Nat) (a:Bool),BG ds day i es b a=BG bs day i es b a
 | [],_,_=>by rw [BG,BG]
 | e :: es,b,a=>by rw [BG,BG,h,Sl h es (b + 1) a]
theorem R2 {ds:List Df} {day:Int} {i:Nat} {m:List Df}:∀ (l:List Df) (b:Nat) (a:Bool),BG ds day i (l++m) b a=cond (BG ds day i l b a) true (BG ds day i m (b + l.length) a)
 | [],b,a=>by rw [BG]; rfl
 | e :: l,b,a=>by
  rw [List.cons_append,BG,BG,R2 l (b + 1) a,List.length_cons,show b + 1 + l.length=b + (l.length + 1) by omega]
  cases (cond (cond (!(e.kind == (ds.getD i default).kind)) (true) (!(decide (e.name=(ds.getD i default).name)))) (true) (decide (day < e.frm)))
  ·simp only [cond_false]
   cases (cond (decide ((ds.getD i default).frm < e.frm)) (true) (cond (e.frm == (ds.getD i default).frm) (decide ((b:Int) < (i:Int))) (false))) <;> rfl
  rfl
theorem PO {ds:List Df} {day:Int} {i:Nat}:∀ (l:List Df) (b:Nat) (a:Bool),(∀ e∈l,e.name≠(ds.getD i default).name∨day < e.frm)→BG ds day i l b a=false
 | [],_,_,_=>by rw [BG]
 | e :: l,b,a,h=>by
  rw [BG]
  have hc:(cond (cond (!(e.kind == (ds.getD i default).kind)) (true) (!(decide (e.name=(ds.getD i default).name)))) (true) (decide (day < e.frm)))=true:=by
   rcases h e (by simp) with c | c
   ·rw [decide_eq_false c]
    cases (e.kind == (ds.getD i default).kind) <;> rfl
   rw [decide_eq_true c]
   cases (cond (!(e.kind == (ds.getD i default).kind)) (true) (!(decide (e.name=(ds.getD i default).name)))) <;> rfl
  rw [hc]
  exact PO l (b + 1) a fun q d=>h q (by simp [d])
theorem Ws {ds:List Df} {day:Int} {i:Nat}:∀ (es:List Df) (b:Nat) (a:Bool),es=ds.drop b→BG ds day i es b a=true→∃ j,j < ds.length∧(ds.getD j default).kind=(ds.getD i default).kind∧(ds.getD j default).name=(ds.getD i default).name∧(ds.getD j default).frm≤day∧((ds.getD i default).frm < (ds.getD j default).frm∨((ds.getD j default).frm=(ds.getD i default).frm∧j < i))
 | [],_,_,_,h=>by rw [BG] at h; cases h
 | e :: es,b,a,he,h=>by
  obtain ⟨d,hd,h2⟩:=Pw he
  rw [BG] at h
  cases hc:(cond (cond (!(e.kind == (ds.getD i default).kind)) (true) (!(decide (e.name=(ds.getD i default).name)))) (true) (decide (day < e.frm)))
  ·rw [hc] at h
   simp only [cond_false] at h
   cases hc2:(cond (decide ((ds.getD i default).frm < e.frm)) (true) (cond (e.frm == (ds.getD i default).frm) (decide ((b:Int) < (i:Int))) (false)))
   ·rw [hc2] at h
    exact Ws es (b + 1) a h2 h
   have c:e.kind=(ds.getD i default).kind:=by
    cases hk:(e.kind == (ds.getD i default).kind)
    ·rw [hk] at hc; cases hc
    exact eq_of_beq hk
   have f:e.name=(ds.getD i default).name:=by
    cases hk:decide (e.name=(ds.getD i default).name)
    ·rw [hk,c,beq_self_eq_true] at hc; cases hc
    exact of_decide_eq_true hk
   have g:e.frm≤day:=by
    cases hk:decide (day < e.frm)
    ·have:=of_decide_eq_false hk; omega
    rw [hk,c,f,beq_self_eq_true,decide_eq_true rfl] at hc; cases hc
   refine ⟨b,d,by rw [hd]; exact c,by rw [hd]; exact f,by rw [hd]; exact g,?_⟩
   rw [hd]
   cases hk:decide ((ds.getD i default).frm < e.frm)
   ·rw [hk] at hc2
    cases hk2:(e.frm == (ds.getD i default).frm)
    ·rw [hk2] at hc2; cases hc2
    rw [hk2] at hc2
    exact .inr ⟨eq_of_beq hk2,by have:=of_decide_eq_true (show decide ((b:Int) < (i:Int))=true from hc2); omega⟩
   exact .inl (of_decide_eq_true hk)
  rw [hc] at h
  exact Ws es (b + 1) a h2 h
theorem ABq {ds:List Df} {day:Int}:∀ (M i:Nat),(day - (ds.getD i default).frm).toNat * (ds.length + 1) + i=M→i < ds.length→(ds.getD i default).frm≤day→∃ j∈Aa ds day,(ds.getD j default).kind=(ds.getD i default).kind∧(ds.getD j default).name=(ds.getD i default).name:=by
 intro M
 induction M using Nat.strongRecOn with
 | _ M ih=>
  intro i f hi hf
  cases hr:Cr ds day i
  ·refine ⟨i,M4.2 ⟨hi,?_⟩,rfl,rfl⟩
   unfold GJ
   rw [hr,decide_eq_true hf]
   cases (cond ((ds.getD i default).kind == 1) (true) ((ds.getD i default).kind == 5)) <;> rfl
  obtain ⟨j,n,h2,m,l,a⟩:=Ws ds 0 false (by simp) hr
  have b:(day - (ds.getD j default).frm).toNat * (ds.length + 1) + j < M:=by
   rw [← f]
   rcases a with a | ⟨a,o⟩
   ·have h:(day - (ds.getD j default).frm).toNat + 1≤(day - (ds.getD i default).frm).toNat:=by omega
    have g:=Nat.mul_le_mul_right (ds.length + 1) h
    rw [Nat.succ_mul] at g
    omega
   rw [a]; omega
  obtain ⟨k,e,d,c⟩:=ih _ b j rfl n l
  exact ⟨k,e,d.trans h2,c.trans m⟩
theorem ZA {ds bs:List Df} {x:Ex} (m:List Nat):∀ (act:List Nat) (a d:Int) (b c:Bool),(∀ i∈act,ds.getD i default=bs.getD i default)→(Bw ds x act a b).2=true→Bw bs x (act++m) d c=Bw ds x act a b
 | [],_,_,_,_,_,h=>by rw [Bw] at h; cases h
 | e :: act,a,d,b,c,hg,h=>by
  rw [List.cons_append,Bw,Bw,← hg e (by simp)]
  rw [Bw] at h
  cases hc:(cond (cond (cond (x.op == 3) (Ac (ds.getD e default)) (false)) (true) (cond (x.op == 4) ((ds.getD e default).kind == 2) (false))) (decide ((ds.getD e default).name=x.nm)) (false))
  ·rw [hc] at h
   exact ZA m act a d b c (fun i hi=>hg i (by simp [hi])) h
  rfl
theorem Y9 {ds bs:List Df} {x:Ex} (m:List Nat):∀ (act:List Nat) (a d:Int) (b c:Bool),(∀ i∈act,ds.getD i default=bs.getD i default)→(CP ds x act a b).2=true→CP bs x (act++m) d c=CP ds x act a b
 | [],_,_,_,_,_,h=>by rw [CP] at h; cases h
 | e :: act,a,d,b,c,hg,h=>by
  rw [List.cons_append,CP,CP,← hg e (by simp)]
  rw [CP] at h
  cases hc:(cond (cond (cond (x.op == 3) (Ac (ds.getD e default)) (false)) (true) (cond (x.op == 4) ((ds.getD e default).kind == 2) (false))) (decide ((ds.getD e default).name=x.nm)) (false))
  ·rw [hc] at h
   exact Y9 m act a d b c (fun i hi=>hg i (by simp [hi])) h
  rfl
theorem ZC {bs:List Df} {act:List Nat} {x:Ex}:∀ (m:List Df) (i:Nat) (a:Int) (b:Bool),(∀ d∈m,(d.kind == 1)=false)→Bf bs act x m i a b=Bw bs x act a b
 | [],_,_,_,_=>by rw [Bf]
 | e :: m,i,a,b,h=>by
  rw [Bf,h e (by simp)]
  exact ZC m (i + 1) a b fun d hd=>h d (by simp [hd])
theorem ZB {ds bs:List Df} {x:Ex} {act:List Nat} (m:List Nat) (md:List Df) (hg:∀ i∈act,ds.getD i default=bs.getD i default) (c:∀ d∈md,(d.kind == 1)=false):∀ (es:List Df) (i:Nat) (a:Int) (b:Bool),(Bf ds act x es i a b).2=true→Bf bs (act++m) x (es++md) i a b=Bf ds act x es i a b
 | [],i,a,b,h=>by
  rw [Bf] at h ⊢
  rw [List.nil_append,ZC md i a b c]
  exact ZA m act a a b b hg h
 | e :: es,i,a,b,h=>by
  rw [Bf] at h
  rw [List.cons_append,Bf,Bf]
  cases hc:(cond (e.kind == 1) (decide (e.name=x.nm)) (false))
  ·rw [hc] at h
   exact ZB m md hg c es (i + 1) a b h
  rfl
theorem p5 {ds md:List Df} {x:Ex} {act:List Nat} (m:List Nat) (b:∀ i∈act,i < ds.length) (a:∀ d∈md,(d.kind == 1)=false) (h:(Aq ds act x).2=true):Aq (ds++md) (act++m) x=Aq ds act x:=by
 have hg:∀ i∈act,ds.getD i default=(ds++md).getD i default:=fun i hi=>(FT (b i hi)).symm
 unfold Aq at h ⊢
 cases hc:x.op == 3
 ·rw [hc] at h
  exact Y9 m act 0 0 false false hg h
 rw [hc] at h
 exact ZB m md hg a ds 0 0 false h
theorem Nj {ds md:List Df} {act:List Nat} (m:List Nat) (b:∀ i∈act,i < ds.length) (c:∀ d∈md,(d.kind == 1)=false):∀ (es:List Ex) (a:Int) (r:List Nat),(Cc ds act es a r).2=0→Cc (ds++md) (act++m) es a r=Cc ds act es a r
 | [],_,_,_=>by rw [Cc,Cc]
 | e :: es,a,r,h=>by
  rw [Cc] at h
  rw [Cc,Cc]
  cases hc:!(Aq ds act e).2
  ·rw [hc] at h
   have h2:(Aq ds act e).2=true:=by simpa using hc
   have f:=Jy b hc
   rw [p5 m b c h2,hc,FT f]
   simp only [cond_false] at h ⊢
   cases hd:Ac (ds.getD (Aq ds act e).1 default)
   ·rw [hd] at h
    exact Nj m b c es a r h
   rw [hd] at h
   exact Nj m b c es a _ h
  rw [hc] at h
  exact absurd (show (7:Int)=0 from h) (by decide)
set_option linter.unusedSectionVars false
theorem Nc {nodes:List Nat} {ns:List (Nat×List Nat)}:∀ (k:Nat) (r:List Nat) (ml:List (Nat×Bool)),r.Nodup→(∀ i∈r,(AH ml i).getD false=true)→(D9 nodes ns k r ml).1.Nodup
 | 0,r,ml,hd,_=>hd
 | k + 1,r,ml,hd,hm=>by
  rw [D9]
  cases hc:decide ((r.length:Int) < (nodes.length:Int))
  ·exact hd
  simp only [cond_true]
  cases hc2:decide (Br (Cg ml ns) nodes < 0)
  ·simp only [cond_false]
   have c:=IJ hc2
   generalize nodes.getD (Br (Cg ml ns) nodes).toNat default=y at c ⊢
   have d:(AH ml y).getD false=false:=by
    unfold Cg at c
    cases h:(AH ml y).getD false
    ·rfl
    rw [h] at c; cases c
   refine Nc k (r++[y]) _ ?_ ?_
   ·rw [List.nodup_append]
    refine ⟨hd,by simp,fun a ha b hb=>?_⟩
    rw [List.mem_singleton.1 hb]
    intro e
    have:=hm a ha
    rw [e,d] at this
    cases this
   intro i hi
   rw [AH]
   split
   ·rfl
   rename_i hne
   rcases List.mem_append.1 hi with hi | hi
   ·exact hm i hi
   rw [List.mem_singleton.1 hi] at hne; exact absurd rfl hne
  exact List.nodup_nil
theorem YI {n:List UInt8} {ds:List Df} {day:Int}:(Ad n ds day).1.Nodup:=by
 unfold Ad
 cases !((A4 n ds day).2.2 == 0)
 ·exact Nc _ [] [] List.nodup_nil (fun i hi=>by cases hi)
 exact List.nodup_nil
section
variable {n:List UInt8} {ds:List Df} {day:Int} {h:Nat} {pa:List Dk} (hp:CJ n ds day=0) (hx:∀ i∈(Ad n ds day).1,VX h (ds.getD i default).body)
include hp hx
theorem wP {i:Nat} (hi:i∈(Ad n ds day).1) {nm a:List (List UInt8×Int×Int)} (hb:∀ x,(AH (Ap n ds day).1 x).getD false=false→AH nm x=AH a x) (hn:AH a (ds.getD i default).name=none)
  (b:(BJ (Bm false [] nm (Ap n ds day).2.2 pa) h (ds.getD i default) ([],[])).1.2.2=0):FK ds (Ap n ds day) h ((ds.getD i default).name,(ds.getD i default).frm,(BJ (Bm false [] nm (Ap n ds day).2.2 pa) h (ds.getD i default) ([],[])).2.2,(BJ (Bm false [] nm (Ap n ds day).2.2 pa) h (ds.getD i default) ([],[])).1.1,(BJ (Bm false [] nm (Ap n ds day).2.2 pa) h (ds.getD i default) ([],[])).1.2.1) a=true:=by
 obtain ⟨f,c,_,e⟩:=M9 (XX nm (Ap n ds day).2.2 pa) h (ds.getD i default) (hx i hi) ([],[]) (vP _) b
 unfold FK
 rw [ABD hp (Gr.1 i hi) (HJ i hi)]
 show cond (cond (!((ds.getD ((i:Int).toNat) default).frm == (ds.getD i default).frm)) true (!(AV (BJ (Bm false [] nm (Ap n ds day).2.2 pa) h (ds.getD i default) ([],[])).1.1 (BJ (Bm false [] nm (Ap n ds day).2.2 pa) h (ds.getD i default) ([],[])).1.2.1))) false (cond (AH a (ds.getD i default).name).isSome false (Fv h (ds.getD ((i:Int).toNat) default) (Ap n ds day) _ a (BJ (Bm false [] nm (Ap n ds day).2.2 pa) h (ds.getD i default) ([],[])).2.2 []))=true
 rw [Int.toNat_natCast,beq_self_eq_true,f,hn]
 show Fv _ _ _ _ _ _ _=true
 refine NM _ _ (fun u hu=>wD hb (c.use u hu)) ?_
 have d:MG (Bm true (ID (BJ (Bm false [] nm (Ap n ds day).2.2 pa) h (ds.getD i default) ([],[])).2.2 []) [] [] []) (BJ (Bm false [] nm (Ap n ds day).2.2 pa) h (ds.getD i default) ([],[])).2.2:=fun u hu=>by
  show pt (AH (ID (BJ (Bm false [] nm (Ap n ds day).2.2 pa) h (ds.getD i default) ([],[])).2.2 []) u.1)=_
  rw [N2 _ [] hu c.nodup rfl]
  rfl
 have he:=e _ d
 unfold fj
 simp only at he
 rw [he,b]
 show cond (cond true (HV _ _) false) (decide _) false=true
 rw [Mz]
 exact decide_eq_true rfl
end
section
variable (ds:List Df) (sc:List (List UInt8×List Gd)) (pa:List Dk) (h:Nat)
def Jk (i:Nat) (nm:List (List UInt8×Int×Int)):C0:=BJ (Bm false [] nm sc pa) h (ds.getD i default) ([],[])
def vG (i:Nat) (nm:List (List UInt8×Int×Int)):C4:=((ds.getD i default).name,(ds.getD i default).frm,(Jk ds sc pa h i nm).2.2,(Jk ds sc pa h i nm).1.1,(Jk ds sc pa h i nm).1.2.1)
def PZ (i:Nat) (nm:List (List UInt8×Int×Int)):List (List UInt8×Int×Int):=cond (!(AH nm (ds.getD i default).name).isSome) (((ds.getD i default).name,(Jk ds sc pa h i nm).1.1,(Jk ds sc pa h i nm).1.2.1) :: nm) nm
def Nv (fnd:List (Nat×Bool)):List Nat→List (List UInt8×Int×Int)→List C4
 | [],_=>[]
 | i :: r,nm=>cond (!((AH fnd i).getD false)) (Nv fnd r nm) (vG ds sc pa h i nm :: Nv fnd r (PZ ds sc pa h i nm))
def Sx (fnd:List (Nat×Bool)):List Nat→List (List UInt8×Int×Int)→Prop
 | [],_=>True
 | i :: r,nm=>((!((AH fnd i).getD false))=true∧Sx fnd r nm)∨((!((AH fnd i).getD false))=false∧(Jk ds sc pa h i nm).1.2.2=0∧Sx fnd r (PZ ds sc pa h i nm))
end
theorem SC {ds:List Df} {sc:List (List UInt8×List Gd)} {pa:List Dk} {h:Nat} {fnd:List (Nat×Bool)}:∀ (r:List Nat) (nm:List (List UInt8×Int×Int)) (a:List C4),(Dv ds sc pa h fnd r nm a).2=0→(Dv ds sc pa h fnd r nm a).1=a++Nv ds sc pa h fnd r nm∧Sx ds sc pa h fnd r nm
 | [],_,a,_=>⟨(List.append_nil a).symm,trivial⟩
 | i :: r,nm,a,h0=>by
  rw [Dv] at h0 ⊢
  rw [Nv,Sx]
  cases hc:!((AH fnd i).getD false)
  ·rw [hc] at h0
   simp only [cond_false] at h0 ⊢
   cases he:!((BJ (Bm false [] nm sc pa) h (ds.getD i default) ([],[])).1.2.2 == 0)
   ·rw [he] at h0
    simp only [cond_false] at h0 ⊢
    obtain ⟨b,h2⟩:=SC r _ _ h0
    refine ⟨b.trans ?_,.inr ⟨trivial,bz he,h2⟩⟩
    rw [List.append_assoc]
    rfl
   rw [he] at h0
   exact absurd h0 (bn he)
  rw [hc] at h0
  obtain ⟨b,h2⟩:=SC r nm a h0
  exact ⟨b,.inl ⟨rfl,h2⟩⟩
section
variable {n:List UInt8} {ds:List Df} {day:Int} {h:Nat} {pa:List Dk} (hp:CJ n ds day=0) (hx:∀ i∈(Ad n ds day).1,VX h (ds.getD i default).body)
include hp hx
theorem UO {fnd:List (Nat×Bool)}:∀ (r:List Nat) (nm c:List (List UInt8×Int×Int)),(∀ i∈r,i∈(Ad n ds day).1)→r.Nodup→(∀ x,(AH (Ap n ds day).1 x).getD false=false→AH nm x=AH c x)→(∀ i∈r,AH c (ds.getD i default).name=none)→Sx ds (Ap n ds day).2.2 pa h fnd r nm→HL ds (Ap n ds day) h (Nv ds (Ap n ds day).2.2 pa h fnd r nm) c=true
 | [],_,_,_,_,_,_,_=>rfl
 | i :: r,nm,c,hr,hd,hb,hn,ho=>by
  rw [Sx] at ho
  rw [Nv]
  rw [List.nodup_cons] at hd
  have b:∀ j∈r,j∈(Ad n ds day).1:=fun j a=>hr j (by simp [a])
  rcases ho with ⟨hc,ho⟩ | ⟨hc,k,ho⟩
  ·rw [hc]
   exact UO r nm c b hd.2 hb (fun j a=>hn j (by simp [a])) ho
  rw [hc]
  simp only [cond_false]
  have a:=wP hp hx (hr i (by simp)) hb (hn i (by simp)) k
  rw [HL,show FK ds (Ap n ds day) h (vG ds (Ap n ds day).2.2 pa h i nm) c=true from a]
  simp only [Bool.not_true,cond_false]
  refine UO r _ _ b hd.2 (fun x d=>?_) (fun j a=>?_) ho
  ·have f:=hb x d
   have l:=hn i (by simp)
   unfold PZ
   show AH _ x=AH (((ds.getD i default).name,(Jk ds (Ap n ds day).2.2 pa h i nm).1.1,(Jk ds (Ap n ds day).2.2 pa h i nm).1.2.1) :: c) x
   by_cases hxn:(ds.getD i default).name=x
   ·rw [← hxn] at f d ⊢
    rw [f,l]
    simp only [Option.isSome_none,Bool.not_false,cond_true]
    rw [AH,AH,if_pos rfl,if_pos rfl]
   have g:∀ m:List (List UInt8×Int×Int),AH (((ds.getD i default).name,(Jk ds (Ap n ds day).2.2 pa h i nm).1.1,(Jk ds (Ap n ds day).2.2 pa h i nm).1.2.1) :: m) x=AH m x:=fun m=>by
    rw [AH]
    split
    ·rename_i e
     exact absurd (by first | exact e | exact e.symm) hxn
    rfl
   rw [g]
   cases !(AH nm (ds.getD i default).name).isSome
   ·exact f
   exact (g nm).trans f
  show AH (((ds.getD i default).name,(Jk ds (Ap n ds day).2.2 pa h i nm).1.1,(Jk ds (Ap n ds day).2.2 pa h i nm).1.2.1) :: c) (ds.getD j default).name=none
  rw [AH]
  split
  ·rename_i e
   have:=wt hp (Gr.1 i (hr i (by simp))) (Gr.1 j (b j a)) (HJ i (hr i (by simp))) (HJ j (b j a)) (by first | exact e | exact e.symm)
   exact absurd a (by rw [← this]; exact hd.1)
  exact hn j (by simp [a])
theorem hZ {fnd:List (Nat×Bool)}:∀ (r:List Nat) (nm:List (List UInt8×Int×Int)),(∀ i∈r,i∈(Ad n ds day).1)→Sx ds (Ap n ds day).2.2 pa h fnd r nm→∃ nmF,(∀ x v,AH nm x=some v→AH nmF x=some v)∧(∀ e∈Nv ds (Ap n ds day).2.2 pa h fnd r nm,MG (Bm false [] nmF (Ap n ds day).2.2 pa) e.2.2.1)∧∀ x v,AH nmF x=some v→AH nm x=some v∨∃ i∈(Ad n ds day).1,x=(ds.getD i default).name
 | [],nm,_,_=>⟨nm,fun _ _ h=>h,fun e he=>(by cases he),fun _ _ h=>.inl h⟩
 | i :: r,nm,hr,ho=>by
  rw [Sx] at ho
  rw [Nv]
  have hr':∀ j∈r,j∈(Ad n ds day).1:=fun j hj=>hr j (by simp [hj])
  rcases ho with ⟨hc,ho⟩ | ⟨hc,h0,ho⟩
  ·rw [hc]
   exact hZ r nm hr' ho
  rw [hc]
  simp only [cond_false]
  obtain ⟨nmF,h1,h2,h3⟩:=hZ r (PZ ds (Ap n ds day).2.2 pa h i nm) hr' ho
  have up:∀ x v,AH nm x=some v→AH (PZ ds (Ap n ds day).2.2 pa h i nm) x=some v:=fun x v hv=>by
   unfold PZ
   cases hq:!(AH nm (ds.getD i default).name).isSome
   ·exact hv
   show AH (_ :: nm) x=some v
   rw [AH]
   split
   ·rename_i e
    have e2:(ds.getD i default).name=x:=by first | exact e | exact e.symm
    rw [e2,hv] at hq
    cases hq
   exact hv
  refine ⟨nmF,fun x v hv=>h1 x v (up x v hv),fun e he=>?_,fun x v hv=>?_⟩
  ·rcases List.mem_cons.1 he with rfl | he
   ·obtain ⟨_,g2,_,_⟩:=M9 (XX nm (Ap n ds day).2.2 pa) h (ds.getD i default) (hx i (hr i (by simp))) ([],[]) (vP _) h0
    intro u hu
    have hu1:=(g2.use u hu).1
    unfold Bm at hu1 ⊢
    simp only [cond_false] at hu1 ⊢
    cases c3:u.1.1 == 3
    ·rw [c3] at hu1; exact hu1
    rw [c3] at hu1
    simp only [cond_true] at hu1 ⊢
    cases hl:AH nm u.1.2.1 with
    | none=>
     rw [hl] at hu1
     have e:(16:Int)=0:=congrArg (fun r:Int×Int×Int=>r.2.2) hu1
     exact absurd e (by decide)
    | some v=>
     rw [h1 _ v (up _ v hl),← hl]
     exact hu1
   exact h2 e he
  rcases h3 x v hv with h4 | h4
  ·unfold PZ at h4
   cases hq:!(AH nm (ds.getD i default).name).isSome
   ·rw [hq] at h4; exact .inl h4
   rw [hq] at h4
   replace h4:AH (_ :: nm) x=some v:=h4
   rw [AH] at h4
   split at h4
   ·rename_i e
    exact .inr ⟨i,hr i (by simp),by first | exact e | exact e.symm⟩
   exact .inl h4
  exact .inr h4
end
theorem Xl {F:Ao→Int×Int×Int}:∀ (us:List DP) (m:List (Ao×Int×Int)),MG F us→(∀ p v,AH m p=some v→F p=(v.1,v.2,0))→(Hy us m).1=true∧∀ p v,AH (Hy us m).2 p=some v→F p=(v.1,v.2,0)
 | [],m,_,hm=>⟨rfl,hm⟩
 | u :: r,m,hu,hm=>by
  rw [Hy]
  have h1:=hu u (by simp)
  have hc:cond (AH m u.1).isSome (!(HV ((AH m u.1).getD (0,0)) u.2)) false=false:=by
   cases hl:AH m u.1 with
   | none=>rfl
   | some v=>
    have h2:=hm _ v hl
    rw [h1] at h2
    have e1:u.2.1=v.1:=congrArg (fun r:Int×Int×Int=>r.1) h2
    have e2:u.2.2=v.2:=congrArg (fun r:Int×Int×Int=>r.2.1) h2
    show (!(HV v u.2))=false
    rw [show v=u.2 from Prod.ext e1.symm e2.symm,Mz]
    rfl
  rw [hc]
  refine Xl r _ (fun x hx=>hu x (by simp [hx])) fun p v hv=>?_
  rw [AH] at hv
  split at hv
  ·rename_i e
   have e2:u.1=p:=by first | exact e | exact e.symm
   rw [← e2,h1]
   obtain rfl:=Option.some.inj hv
   rfl
  exact hm p v hv
theorem Xm {F:Ao→Int×Int×Int}:∀ (l:List C4) (m:List (Ao×Int×Int)),(∀ e∈l,MG F e.2.2.1)→(∀ p v,AH m p=some v→F p=(v.1,v.2,0))→EF l m=true
 | [],_,_,_=>rfl
 | e :: r,m,hl,hm=>by
  obtain ⟨h1,h2⟩:=Xl e.2.2.1 m (hl e (by simp)) hm
  rw [EF,h1]
  exact Xm r _ (fun x hx=>hl x (by simp [hx])) h2
theorem RY:∀ (l:List C4) (m:List (Ao×Int×Int)) (k:Nat),EF l m=true→EF (l.take k) m=true
 | [],_,k,_=>by cases k <;> rfl
 | e :: r,m,0,_=>rfl
 | e :: r,m,k + 1,h=>by
  rw [EF] at h
  rw [List.take_succ_cons,EF]
  cases hc:(Hy e.2.2.1 m).1
  ·rw [hc] at h; cases h
  rw [hc] at h
  exact RY r _ k h
theorem Se {ds:List Df} {s:GK} {h:Nat}:∀ (l:List C4) (a:List (List UInt8×Int×Int)) (k:Nat),HL ds s h l a=true→HL ds s h (l.take k) a=true
 | [],_,k,_=>by cases k <;> rfl
 | e :: r,a,0,_=>rfl
 | e :: r,a,k + 1,hv=>by
  rw [HL] at hv
  rw [List.take_succ_cons,HL]
  cases hc:!(FK ds s h e a)
  ·rw [hc] at hv
   exact Se r _ k hv
  rw [hc] at hv; cases hv
theorem KJ {n:List UInt8} {ds:List Df} {day:Int} {h:Nat} {l:List C4}:Ha n ds day h l=true↔CJ n ds day=0∧l≠[]∧EF l []=true∧HL ds (Ap n ds day) h l []=true:=by
 unfold Ha
 constructor
 ·intro hv
  cases a:!(CJ n ds day == 0)
  ·rw [a] at hv
   cases h2:((l.length:Int) == 0)
   ·rw [h2] at hv
    cases b:EF l []
    ·rw [b] at hv; cases hv
    rw [b] at hv
    refine ⟨bz a,fun e=>?_,rfl,hv⟩
    rw [e] at h2
    cases h2
   rw [h2] at hv; cases hv
  rw [a] at hv; cases hv
 rintro ⟨a,h2,b,d⟩
 have c:((l.length:Int) == 0)=false:=by
  cases l with
  | nil=>exact absurd rfl h2
  | cons e r=>
   have:((e :: r).length:Int)≠0:=by rw [List.length_cons]; omega
   simpa using this
 rw [a,c,b]
 exact d
theorem iK {n:List UInt8} {ds:List Df} {day:Int} {h:Nat} {l:List C4} (hv:Ha n ds day h l=true) (k:Nat):Ha n ds day h (l.take (k + 1))=true:=by
 obtain ⟨c,h2,b,a⟩:=KJ.1 hv
 refine KJ.2 ⟨c,?_,RY _ _ _ b,Se _ _ _ a⟩
 cases l with
 | nil=>exact absurd rfl h2
 | cons e r=>rw [List.take_succ_cons]; exact List.cons_ne_nil _ _
theorem R8 {ins:List (List UInt8×Bool)}:∀ (l:List Dl) (m:List (List UInt8×Int×Int)),(∀ x v,AH m x=some v→(AH ins x).getD false=true)→∀ x v,AH (Hi ins l m) x=some v→(AH ins x).getD false=true
 | [],_,h=>h
 | e :: r,m,h=>by
  rw [Hi]
  cases hc:cond (!(AH m e.1).isSome) ((AH ins e.1).getD false) false
  ·exact R8 r m h
  refine R8 r _ fun x v hv=>?_
  rw [AH] at hv
  split at hv
  ·rename_i e'
   have a:e.1=x:=by first | exact e' | exact e'.symm
   rw [← a]
   cases hq:!(AH m e.1).isSome
   ·rw [hq] at hc; cases hc
   rw [hq] at hc; exact hc
  exact h x v hv
theorem qJ {n:List UInt8} {ds:List Df} {day:Int} {h:Nat} {ins:List Dl} {pa:List Dk} {nm:List UInt8} (hx:∀ d∈ds,Ac d=true→VX h d.body) (b:(CX n ds day h ins pa nm).2=0):Ha n ds day h (CX n ds day h ins pa nm).1=true∧∃ c,(∀ e∈(CX n ds day h ins pa nm).1,MG (Bm false [] c (Ap n ds day).2.2 pa) e.2.2.1)∧∀ x v,AH c x=some v→(AH (Ap n ds day).1 x).getD false=true∨∃ i∈(Ad n ds day).1,x=(ds.getD i default).name:=by
 obtain ⟨k,a,_⟩:=Pr b
 have g:∀ i∈(Ad n ds day).1,VX h (ds.getD i default).body:=fun i hi=>hx _ (DR (Ew _ (Gr.1 i hi))) (HJ i hi)
 have j:∀ x v,AH (Hi (Ap n ds day).1 ins []) x=some v→(AH (Ap n ds day).1 x).getD false=true:=R8 ins [] fun x v hv=>by cases hv
 unfold CX at b a ⊢
 rw [k] at b a ⊢
 cases hl:AH (Ap n ds day).2.1 nm with
 | none=>rw [hl] at b; exact absurd (show (7:Int)=0 from b) (by decide)
 | some r=>
  rw [hl] at b a
  cases hc:!((Dn n ds day r.toNat).2 == 0)
  ·simp only [beq_self_eq_true,Bool.not_true,cond_false,hc] at b a ⊢
   obtain ⟨o,h2⟩:=SC _ _ _ b
   rw [o,List.nil_append] at a ⊢
   obtain ⟨c,_,m,a3⟩:=hZ k g _ _ (fun i hi=>hi) h2
   refine ⟨KJ.2 ⟨k,a,Xm _ [] m (fun p v hv=>by cases hv),UO k g _ _ [] (fun i hi=>hi) YI (fun x f=>?_) (fun _ _=>rfl) h2⟩,c,m,fun x v hv=>?_⟩
   ·cases hq:AH (Hi (Ap n ds day).1 ins []) x with
    | none=>rfl
    | some v=>rw [j x v hq] at f; cases f
   rcases a3 x v hv with l | l
   ·exact .inl (j x v l)
   exact .inr l
  simp only [beq_self_eq_true,Bool.not_true,cond_false,hc,cond_true] at b
  exact absurd b (bn hc)
end Go.Proofs.YtkjbdagicjbjjaaGreat

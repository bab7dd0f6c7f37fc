/- Contracts of functions, part 25. -/
import Derived.Test.YtkjbdagicjbjjaaGreatTs24
set_option linter.all false
namespace Go.Proofs.YtkjbdagicjbjjaaGreat
noncomputable section
open Go.RowKit
set_option maxRecDepth 100000
set_option maxHeartbeats 1000000
attribute [local irreducible] BD BP AC AD AF Ar AZ AM Aw Bk C6 BV BO At Fr
def Db (nm:List UInt8):List Dk→List (Int×Int)×Bool
 | []=>([],false)
 | e :: tl=>cond (decide (e.1=nm)) (e.2,true) (Db nm tl)
theorem Yh {nm:List UInt8} {l:List Dk} (i:Nat) (e:Dk) (hi:l[i]?=some e):Db nm (l.drop i)=cond (decide (e.1=nm)) (e.2,true) (Db nm (l.drop (i + 1))):=by
 have hl:i < l.length:=(List.getElem?_eq_some_iff.1 hi).1
 have he:l[i]=e:=(List.getElem?_eq_some_iff.1 hi).2
 rw [← List.getElem_cons_drop hl,Db,he]
noncomputable def ZX:Code:=Tryz.f144.body.getD .skip
def ar:=ν [.code ZX]
def Ti:=ν (Ar ar)
def qw:=AA (An Ae 90 (AD Ti)) (AD Ti)
def qv:=Al 4 (AC (AC qw))
def qu:=AI qv
def ACE:=Ξ qu
def ACD:=Ψ Ti
theorem RT (A:Option Addr) (c:Nat) (l:List Dk) (nm:List UInt8) (w o:World) (h:EW w A l) (hl:l.length≤4294967296) (B:Below (ε w) w o):Calls Tryz.prog 144 ([τ A l.length c,η nm]:List Value).toArray o fun e w'=>∃ A' c',e=.returned (.tuple #[τ A' (Db nm l).1.length c',ξ (Db nm l).2])∧iB A' (Db nm l).1.length c'∧OO w A' (Db nm l).1∧Below (ε o) o w':=by
 refine AS (fn:=Tryz.f144) (c:=ZX) (n:=21) ?_
 have K1:=Wk.start o
 refine AB ar K1 [] fun w1 K2=>?_
 refine AU [(1,η nm),(8,τ A l.length c),(9,δ (l.length:Int)),(10,δ ((0:Nat):Int))] fun E2=>?_
 refine Bo (by kernel_rfl) (fun E wx=>∃ (i:Nat) (E0:Nat→Value),i≤l.length∧E=BE E0 [(1,η nm),(8,τ A l.length c),(9,δ (l.length:Int)),(10,δ (i:Int))]∧Db nm l=Db nm (l.drop i)∧Wk o wx [] [] []) (fun E _=>l.length - AL (E 10)) ⟨0,E2,Nat.zero_le _,rfl,rfl,K2⟩ ?_
 rintro E wx ⟨i,E0,hi,rfl,hv,K3⟩ m
 refine AB Ti K3 [] fun w4 K4=>?_
 refine AG (decide ((i:Int) < (l.length:Int))) (fun v=>?_) (fun v=>?_)
 ·have d:i < l.length:=by have:=of_decide_eq_true v; omega
  obtain ⟨e,he⟩:∃ e,l[i]?=some e:=⟨_,List.getElem?_eq_getElem d⟩
  rw [Yh i e he] at hv
  obtain ⟨g,f,rfl,hg,ha⟩:=h.all (by omega)
  obtain ⟨A1,z,hr,s,hx⟩:=ha i _ he
  refine Ak Ae qw K4 [] fun w6 p=>?_
  refine Ay (g:=g) (off:=f) (cap:=c) (sz:=2) (k:=i) (len:=l.length) (some 12) d Tryz.underlying35 ?_
  refine BN 90 g (f + i * 2) _ (some 13) (Ag hr hg (B.trans (p.B.mono B.size))) ?_
  refine CC 4 qv [ι (ε w6) [η (e.1),τ A1 e.2.length z] 90] p [(0,0)] fun w7 K7=>?_
  refine Av K7 [(1,0,0)] [⟨3,[(15,η (e.1)),(16,η nm)],ξ (decide (e.1=nm)),true⟩] K7.G (fun sp r=>?_) fun w8 E8 K8=>?_
  ·rw [List.mem_singleton.1 r]
   exact BQ fun _ E u _=>Hl (T:=9) (T':=9) (x:=.tmp 15) (y:=.tmp 16)
  refine AB qu K8 [] fun w9 K9=>?_
  refine AG (decide (e.1=nm)) (fun j=>?_) (fun j=>?_)
  ·refine AB ACE K9 [(0,1)] fun q b=>?_
   have hS:Db nm l=(e.2,true):=by rw [hv,j]; rfl
   refine AK b (0,0) (.tuple #[τ A1 e.2.length z,ξ true]) ?_
   rw [hS]
   exact ⟨A1,z,rfl,s,hx,b.B⟩
  refine AB (AZ ar) K9 [] fun q b=>?_
  refine AU [(1,η nm),(8,τ (some ⟨g,f,none⟩) l.length c),(9,δ (l.length:Int)),(10,δ (IntKind.i64.wrap ((i:Int) + 1)))] fun a0=>?_
  rw [Bl i (by omega)]
  refine m _ _ ⟨i + 1,a0,d,rfl,by rw [hv,j]; rfl,b.pk [] []⟩ ?_
  show l.length - AL (δ ((i + 1:Nat):Int)) < l.length - AL (δ (i:Int))
  simp only [AL]
  omega
 have t:i=l.length:=by have:=of_decide_eq_false v; omega
 rw [t,List.drop_length,Db] at hv
 refine AB ACD K4 [] fun w6 p=>?_
 refine AK p (0,0) (.tuple #[τ none 0 0,ξ false]) ?_
 rw [hv]
 exact ⟨none,0,rfl,⟨Nat.le_refl _,fun a ha=>by cases ha⟩,.inl rfl,p.B⟩
theorem S6 {P:Program} {o:Oper} {ρ:Operand→Value} {w:World} {t e:TypeId} {x:Operand} {a:Option Addr} {len cap sz:Nat} (hop:o.op=.slice t x (some (.const (δ 1))) none none) (ht:P.underlying t=some (.slice e)) (hx:ρ x=.slice a len cap) (hc:ρ (.const (δ 1))=δ 1) (d:1≤len) (hs:(P.info? e).map (·.size)=some sz):(execOp ρ o).run P w=.ok (.value (sliced a 1 len cap sz)) w:=by
 have he:P.underlying t=some (.slice (P.elem t)):=by simp [Program.elem,ht]
 have c:P.elem t=e:=by simp [Program.elem,ht]
 have hl:=run_slice_l (P:=P) (w:=w) t a len cap he .i64 1 (by omega) (by omega)
 have b:(sizeOf (P.elem t)).run P w=.ok sz w:=by
  rw [c]
  cases hq:P.info? e with
  | none=>rw [hq] at hs; cases hs
  | some inf=>
   have b:inf.size=sz:=by rw [hq] at hs; exact Option.some.inj hs
   simp [sizeOf,typeInfo,hq,b]
 rw [b] at hl
 simp [execOp,hop,hx,hc,run_sliceAt_slice,he,hl]
def II (n:Nat):List (Int×Int)→Int×Int→Int×Int×Int
 | [],s=>Ks s.1 s.2 (n:Int) 1
 | e :: tl,s=>cond (!((FF s.1 s.2 e.1 e.2).2.2 == 0)) (0,0,(FF s.1 s.2 e.1 e.2).2.2) (II n tl ((FF s.1 s.2 e.1 e.2).1,(FF s.1 s.2 e.1 e.2).2.1))
theorem f0 {n:Nat} {l:List (Int×Int)} {s:Int×Int} (i:Nat) (e:Int×Int) (hi:l[i]?=some e):II n (l.drop i) s=cond (!((FF s.1 s.2 e.1 e.2).2.2 == 0)) (0,0,(FF s.1 s.2 e.1 e.2).2.2) (II n (l.drop (i + 1)) ((FF s.1 s.2 e.1 e.2).1,(FF s.1 s.2 e.1 e.2).2.1)):=by
 have hl:i < l.length:=(List.getElem?_eq_some_iff.1 hi).1
 have he:l[i]=e:=(List.getElem?_eq_some_iff.1 hi).2
 rw [← List.getElem_cons_drop hl,II,he]
def f2 (n:Nat):List (Int×Int)→Int×Int×Int
 | []=>(0,0,16)
 | x :: tl=>II n tl x
def OS (l:List (Int×Int)):Int×Int×Int:=cond (decide (120 < (l.length:Int))) (0,0,3) (cond (l.any fun e=>!(AV e.1 e.2)) (0,0,1) (f2 l.length l))
def Jb:Op→Bool
 | .slice _ _ _ _ _=>true
 | _=>false
noncomputable def ZU:Code:=Tryz.f145.body.getD .skip
def am:=ν [.code ZU]
def AB9:=Ξ am
def al:=Ψ am
def Tf:=ν (Ar al)
def qp:=AA (An Ae 90 (AD Tf)) (AD Tf)
def qo:=ν (AC (AC qp))
def qn:=Ω qo
def AB8:=Ξ qn
def Te:=Ψ Tf
def AB7:=Ξ Te
def Ud:=AA (An Ae 90 (AF Te)) (AF Te)
def ig:=AA (An Jb 90 (AC (AC Ud))) (AC (AC Ud))
def Uc:=Ω ig
def QB:=ν (Ar Uc)
def ie:=AA (An Ae 90 (AD QB)) (AD QB)
def ib:=ν (AC (AC ie))
def ia:=Ω ib
def xL:=Ξ ia
def iZ:=Al 20 (AF QB)
def xK:=AI iZ
theorem mO (A:Option Addr) (c:Nat) (l:List (Int×Int)) (w:World) (h:OO w A l) (hl:l.length≤4294967296) (m0:l.length≤c):Calls Tryz.prog 145 ([τ A l.length c]:List Value).toArray w fun e w'=>e=.returned (DT (OS l))∧Below (ε w) w w':=by
 refine AS (fn:=Tryz.f145) (c:=ZU) (n:=59) ?_
 have K1:=Wk.start w
 refine Ah am [ι (ε w) [δ 0,δ 0] 41] K1 [] fun w1 K2=>?_
 unfold OS
 refine AG (decide (120 < (l.length:Int))) (fun c1=>?_) (fun c1=>?_)
 ·refine AB AB9 K2 [(0,0)] fun w2 K3=>?_
  exact AK K3 (0,0) (.tuple #[ψ [δ 0,δ 0],δ 3]) ⟨by rw [c1]; rfl,K3.B⟩
 rw [c1]
 refine AB al K2 [] fun w2 K3=>?_
 refine AU [(0,τ A l.length c),(2,ζ (ε w)),(15,τ A l.length c),(16,δ (l.length:Int)),(17,δ ((0:Nat):Int))] fun E3=>?_
 refine Bo (by kernel_rfl) (fun E wx=>∃ (i:Nat) (E0:Nat→Value),i≤l.length∧E=BE E0 [(0,τ A l.length c),(2,ζ (ε w)),(15,τ A l.length c),(16,δ (l.length:Int)),(17,δ (i:Int))]∧(∀ (k:Nat) (e:Int×Int),k < i→l[k]?=some e→AV e.1 e.2=true)∧Wk w wx [ι (ε w) [δ 0,δ 0] 41] [] []) (fun E _=>l.length - AL (E 17)) ⟨0,E3,Nat.zero_le _,rfl,fun k e hk=>absurd hk (Nat.not_lt_zero _),K3⟩ ?_
 clear K2 K3
 rintro E wx ⟨i,E0,hi,rfl,hv,K3⟩ b
 refine AB Tf K3 [] fun w4 K4=>?_
 refine AG (decide ((i:Int) < (l.length:Int))) (fun c5=>?_) (fun c5=>?_)
 ·have d:i < l.length:=by have:=of_decide_eq_true c5; omega
  obtain ⟨e,he⟩:∃ e,l[i]?=some e:=⟨_,List.getElem?_eq_getElem d⟩
  obtain ⟨g,f,rfl,hg,ha⟩:=h.all (by omega)
  have hr:=ha i _ he
  refine Ak Ae qp K4 [] fun w6 v=>?_
  refine Ay (g:=g) (off:=f) (cap:=c) (sz:=2) (k:=i) (len:=l.length) (some 19) d Tryz.underlying67 ?_
  refine BN 41 g (f + i * 2) (BT e) (some 20) (Ag hr hg v.B) ?_
  refine Ah qo [ι (ε w) [δ 0,δ 0] 41,ι (ε w6) (BT e) 41] v [(1,0),(1,0)] fun w7 K7=>?_
  refine AP K7 (args:=[ψ [δ e.1,δ e.2]]) (Bt e.1 e.2 w7) fun w8 K8=>?_
  refine AB qn K8 [] fun w9 K9=>?_
  refine AG (!(AV e.1 e.2)) (fun j=>?_) (fun j=>?_)
  ·refine AB AB8 K9 [(0,0)] fun p m=>?_
   have c0:(l.any fun e=>!(AV e.1 e.2))=true:=List.any_eq_true.2 ⟨e,List.mem_of_getElem? he,j⟩
   exact AK m (0,0) (.tuple #[ψ [δ 0,δ 0],δ 1]) ⟨by rw [c0]; rfl,m.B⟩
  refine AB (AZ al) K9 [] fun p m=>?_
  refine AU [(0,τ (some ⟨g,f,none⟩) l.length c),(2,ζ (ε w)),(15,τ (some ⟨g,f,none⟩) l.length c),(16,δ (l.length:Int)),(17,δ (IntKind.i64.wrap ((i:Int) + 1)))] fun r0=>?_
  rw [Bl i (by omega)]
  refine b _ _ ⟨i + 1,r0,d,rfl,fun k x hk hx=>?_,m.pk [0] []⟩ ?_
  ·by_cases hki:k=i
   ·subst hki
    obtain rfl:=Option.some.inj (he.symm.trans hx)
    simpa using j
   exact hv k x (by omega) hx
  show l.length - AL (δ ((i + 1:Nat):Int)) < l.length - AL (δ (i:Int))
  simp only [AL]
  omega
 have g0:i=l.length:=by have:=of_decide_eq_false c5; omega
 have c0:(l.any fun e=>!(AV e.1 e.2))=false:=by
  rw [List.any_eq_false]
  intro e he
  obtain ⟨k,hk⟩:=List.mem_iff_getElem?.1 he
  rw [hv k e (by have:=(List.getElem?_eq_some_iff.1 hk).1; omega) hk]
  decide
 rw [c0]
 clear b hv c1
 refine AB Te K4 [] fun w5 K5=>?_
 refine AG ((l.length:Int) == 0) (fun c2=>?_) (fun c2=>?_)
 ·obtain rfl:l=[]:=by
   have:(l.length:Int)=0:=by simpa using c2
   exact List.length_eq_zero_iff.1 (by omega)
  refine AB AB7 K5 [(0,0)] fun w6 v=>?_
  exact AK v (0,0) (.tuple #[ψ [δ 0,δ 0],δ 16]) ⟨rfl,v.B⟩
 cases l with
 | nil=>cases c2
 | cons x tl=>
  obtain ⟨g,f,rfl,hg,ha⟩:=h.all (Nat.succ_pos _)
  refine Ak Ae Ud K5 [] fun w6 v=>?_
  refine Ay (g:=g) (off:=f) (cap:=c) (sz:=2) (k:=0) (len:=(x :: tl).length) (some 31) (Nat.succ_pos _) Tryz.underlying67 ?_
  refine BN 41 g (f + 0 * 2) (BT x) (some 32) (Ag (ha 0 x rfl) hg v.B) ?_
  refine CY Jb ig [ι (ε w) [δ 0,δ 0] 41,ι (ε w6) (BT x) 41] v [(1,0)] fun w7 K7=>?_
  refine DN (S6 (t:=67) (x:=.tmp 33) (a:=some ⟨g,f,none⟩) (len:=(x :: tl).length) (cap:=c) (sz:=2) (by kernel_rfl) Tryz.underlying67 (by kernel_rfl) (by kernel_rfl) (Nat.succ_le_succ (Nat.zero_le _)) (by kernel_rfl)) ?_
  obtain ⟨A2,o,p0,k0⟩:∃ A2 o,(0 < tl.length→A2=some ⟨g,f + 2,none⟩)∧sliced (some ⟨g,f,none⟩) 1 (x :: tl).length c 2=τ A2 tl.length o:=by
   refine ⟨_,_,fun hp=>?_,rfl⟩
   rw [if_neg (by simp at m0; omega)]
   rfl
  rw [k0]
  refine AB Uc K7 [] fun w8 K8=>?_
  have l0:f2 (x :: tl).length (x :: tl)=II (tl.length + 1) tl x:=rfl
  rw [l0]
  have S7:=v.B
  generalize hid:(ε w6)=q at K8
  refine AU [(0,τ (some ⟨g,f,none⟩) (tl.length + 1) c),(2,ζ (ε w)),(6,ζ (ε w6)),(34,τ A2 tl.length o),(35,δ (tl.length:Int)),(36,δ ((0:Nat):Int))] fun E8=>?_
  rw [hid]
  refine Bo (by kernel_rfl) (fun E wx=>∃ (i:Nat) (s:Int×Int) (E0:Nat→Value),i≤tl.length∧E=BE E0 [(0,τ (some ⟨g,f,none⟩) (tl.length + 1) c),(2,ζ (ε w)),(6,ζ q),(34,τ A2 tl.length o),(35,δ (tl.length:Int)),(36,δ (i:Int))]∧II (tl.length + 1) tl x=II (tl.length + 1) (tl.drop i) s∧Wk w wx [ι (ε w) [δ 0,δ 0] 41,ι q (BT s) 41] [] []) (fun E _=>tl.length - AL (E 36)) ⟨0,x,E8,Nat.zero_le _,rfl,rfl,K8⟩ ?_
  clear K8
  rintro E wx ⟨i,s,E0,hi,rfl,hv,K9⟩ b
  refine AB QB K9 [] fun w9 m=>?_
  refine AG (decide ((i:Int) < (tl.length:Int))) (fun c5=>?_) (fun c5=>?_)
  ·have d:i < tl.length:=by have:=of_decide_eq_true c5; omega
   obtain ⟨e,he⟩:∃ e,tl[i]?=some e:=⟨_,List.getElem?_eq_getElem d⟩
   rw [f0 i e he] at hv
   obtain rfl:=p0 (by omega)
   have hr:=ha (i + 1) e (by simpa using he)
   rw [show f + (i + 1) * 2=f + 2 + i * 2 by omega] at hr
   refine Ak Ae ie m [] fun p r=>?_
   refine Ay (g:=g) (off:=f + 2) (cap:=o) (sz:=2) (k:=i) (len:=tl.length) (some 38) d Tryz.underlying67 ?_
   refine BN 41 g (f + 2 + i * 2) (BT e) (some 39) (Ag hr hg r.B) ?_
   refine Ah ib [ι (ε w) [δ 0,δ 0] 41,ι q (BT s) 41,ι (ε p) (BT e) 41] r [(2,0),(1,0),(2,0)] fun e0 d0=>?_
   refine AP d0 (args:=[ψ [δ s.1,δ s.2],ψ [δ e.1,δ e.2]]) (YE s.1 s.2 e.1 e.2 e0) fun a0 z=>?_
   refine Ah ia [ι (ε w) [δ 0,δ 0] 41,ι q (BT s) 41,ι (ε p) (BT e) 41,ι (ε a0) [δ (FF s.1 s.2 e.1 e.2).1,δ (FF s.1 s.2 e.1 e.2).2.1] 41] z [(3,0)] fun j0 h0=>?_
   refine AG (!((FF s.1 s.2 e.1 e.2).2.2 == 0)) (fun j=>?_) (fun j=>?_)
   ·refine AB xL h0 [(0,0)] fun i0 y=>?_
    refine AK y (0,0) (.tuple #[ψ [δ 0,δ 0],δ (FF s.1 s.2 e.1 e.2).2.2]) ⟨?_,y.B⟩
    rw [hv,j]
    rfl
   refine Ah (AZ Uc) [ι (ε w) [δ 0,δ 0] 41,ι q [δ (FF s.1 s.2 e.1 e.2).1,δ (FF s.1 s.2 e.1 e.2).2.1] 41,ι (ε p) (BT e) 41,ι (ε a0) [δ (FF s.1 s.2 e.1 e.2).1,δ (FF s.1 s.2 e.1 e.2).2.1] 41] h0 [(3,0),(1,0)] fun i0 y=>?_
   refine AU [(0,τ (some ⟨g,f,none⟩) (tl.length + 1) c),(2,ζ (ε w)),(6,ζ q),(34,τ (some ⟨g,f + 2,none⟩) tl.length o),(35,δ (tl.length:Int)),(36,δ (IntKind.i64.wrap ((i:Int) + 1)))] fun q0=>?_
   rw [Bl i (by simp at hl; omega)]
   refine b _ _ ⟨i + 1,((FF s.1 s.2 e.1 e.2).1,(FF s.1 s.2 e.1 e.2).2.1),q0,d,rfl,by rw [hv,j]; rfl,y.pk [0,1] []⟩ ?_
   show tl.length - AL (δ ((i + 1:Nat):Int)) < tl.length - AL (δ (i:Int))
   simp only [AL]
   omega
  have g0:i=tl.length:=by have:=of_decide_eq_false c5; omega
  rw [g0,List.drop_length,II] at hv
  refine As 20 iZ m [] fun e0 r=>?_
  refine GD r [0,1,2,3,4,5,6] [(0,1,0)] [⟨3,[(54,δ ((tl.length + 1:Nat):Int))],ψ [δ ((tl.length + 1:Nat):Int),δ 1],true⟩,⟨4,[(52,ψ (BT s)),(55,ψ [δ ((tl.length + 1:Nat):Int),δ 1])],DT (Ks s.1 s.2 ((tl.length + 1:Nat):Int) 1),true⟩] [(7,0,0),(8,0,0)] r.G (fun sp b0=>?_) fun s0 a0 d0=>?_
  ·rcases List.mem_cons.1 b0 with rfl | b0
   ·exact AY 119 [.tmp 54] _ (fun _=>by kernel_rfl) fun hc u hu=>AQ hu (Lf ((tl.length + 1:Nat):Int) u)
   obtain rfl:=List.mem_singleton.1 b0
   exact AY 91 [.tmp 52,.tmp 55] _ (fun _=>by kernel_rfl) fun hc u hu=>AQ hu (Xg s.1 s.2 ((tl.length + 1:Nat):Int) 1 u)
  refine AB xK d0 [] fun j0 z=>?_
  refine AK z (0,0) (DT (Ks s.1 s.2 ((tl.length + 1:Nat):Int) 1)) ⟨?_,z.B⟩
  rw [hv]
  rfl
theorem Cl.take {α:Type} {n:Nat} {f:α→List Value} {w:World} {A:Option Addr} {es:List α} (h:Cl n f w A es) (i:Nat):Cl n f w A (es.take i):=by
 unfold Cl
 rw [List.map_take]
 exact MU h i
theorem Nw {P:Program} {o:Oper} {ρ:Operand→Value} {w:World} {t e:TypeId} {x h:Operand} {a:Option Addr} {len cap i:Nat} (hop:o.op=.slice t x none (some h) none) (hu:P.underlying t=some (.slice e)) (hs:MT P e≠none) (hx:ρ x=.slice a len cap) (f:ρ h=δ (i:Nat)) (hi:i≤cap) (ha:∀ b,a=some b→b.spot=none):(execOp ρ o).run P w=.ok (.value (.slice a i cap)) w:=by
 obtain ⟨sz,c⟩:=Option.ne_none_iff_exists'.1 hs
 have j:¬ (cap:Int) < (i:Int):=by omega
 cases a with
 | none=>simp [execOp,hop,hx,f,Instr.sliceAt,Instr.slice,run_underlying hu,I6 c,Instr.sliceBounds,Instr.sliceBound,asIntOf,hi,j]
 | some b=>
  obtain ⟨g,off,s⟩:=b
  obtain rfl:s=none:=ha _ rfl
  have d:(⟨g,off,none⟩:Addr).add 0=⟨g,off,none⟩:=rfl
  simp [execOp,hop,hx,f,Instr.sliceAt,Instr.slice,run_underlying hu,I6 c,Instr.sliceBounds,Instr.sliceBound,asIntOf,hi,j,d]
theorem RS {nm:List UInt8} {M:Nat}:∀ {l:List Dk},(∀ e∈l,e.2.length≤M)→(Db nm l).1.length≤M
 | [],_=>Nat.zero_le _
 | e :: tl,h=>by
  rw [Db]
  cases decide (e.1=nm)
  ·exact RS (l:=tl) fun x hx=>h x (by simp [hx])
  exact h e (by simp)
def Hq (l:List Dk) (nm:List UInt8) (n:Int):Int×Int×Int:=cond (cond (decide (n < 1)) true (decide (120 < n))) (0,0,2) (cond (!(Db nm l).2) (0,0,16) (OS ((Db nm l).1.take n.toNat)))
noncomputable def ZZ:Code:=Tryz.f115.body.getD .skip
def rJ:=Al 1 [.code ZZ]
def av:=AI rJ
def ACJ:=Ξ av
def rI:=Ψ av
def Tm:=Ω rI
def ACI:=Ξ Tm
def rH:=AA (An Jb 90 (AF Tm)) (AF Tm)
def rE:=Ω rH
def ACH:=Ω rE
theorem X7 (A:Option Addr) (c:Nat) (l:List Dk) (nm:List UInt8) (n:Int) (w:World) (h:EW w A l) (hl:l.length≤4294967296) (hM:∀ e∈l,e.2.length≤4294967296):Calls Tryz.prog 115 ([.slice A l.length c,.string ⟨⟨nm⟩⟩,δ n]:List Value).toArray w fun e w'=>e=.returned (DT (Hq l nm n))∧Below w.heap.size w w':=by
 refine AS (fn:=Tryz.f115) (c:=ZZ) (n:=35) ?_
 have K1:=Wk.start w
 refine CC 1 rJ [⟨w.heap.size,0,[δ 0,δ 0],41,true⟩] K1 [] fun w1 K2=>?_
 refine Av K2 [] [] K2.G (fun sp m=>by cases m) fun w2 E2 K3=>?_
 unfold Hq
 refine AB av K3 [] fun w3 z=>?_
 refine AG (cond (decide (n < 1)) true (decide (120 < n))) (fun d=>?_) (fun d=>?_)
 ·refine AB ACJ z [(0,0)] fun u f=>?_
  exact AK f (0,0) (.tuple #[.agg ⟨[δ 0,δ 0]⟩,δ 2]) ⟨by rw [d]; rfl,f.B⟩
 have hn:1≤n∧n≤120:=by
  cases hd:decide (n < 1) with
  | true=>rw [hd] at d; cases d
  | false=>
   rw [hd] at d
   have h1:=of_decide_eq_false hd
   have h2:¬ 120 < n:=of_decide_eq_false d
   omega
 rw [d]
 refine AB rI z [] fun u f=>?_
 refine BA (RT A c l nm w u h hl f.B) fun en w5 hh=>?_
 obtain ⟨s,j,rfl,hok,hx,b5⟩:=hh
 have o:=RS (nm:=nm) hM
 generalize Db nm l=r at *
 obtain ⟨b,ok⟩:=r
 refine ⟨_,rfl,?_⟩
 have K6:=f.below b5
 refine AB Tm K6 [] fun w6 y=>?_
 refine AG (!ok) (fun p=>?_) (fun p=>?_)
 ·refine AB ACI y [(0,0)] fun w7 k=>?_
  refine AK k (0,0) (.tuple #[.agg ⟨[δ 0,δ 0]⟩,δ 16]) ⟨?_,k.B⟩
  show _=Ending.returned (DT (cond false _ (cond (!ok) _ _)))
  rw [p]; rfl
 refine Ak Jb rH y [] fun w7 k=>?_
 refine AU [(6,.pointer (some ⟨w.heap.size,0,none⟩)),(26,.slice s b.length j),(30,δ (if (b.length:Int) < n then (b.length:Int) else n))] fun E8=>?_
 have hm:(if (b.length:Int) < n then (b.length:Int) else n)=((b.take n.toNat).length:Int):=by
  rw [List.length_take]
  split <;> omega
 have b0:(b.take n.toNat).length≤b.length:=by rw [List.length_take]; omega
 have h0:b.length≤j:=hok.1
 have c0:b.length≤4294967296:=o
 rw [hm]
 refine DN (Nw (t:=67) (x:=.tmp 26) (h:=.tmp 30) (a:=s) (len:=b.length) (cap:=j) (i:=(b.take n.toNat).length) (by kernel_rfl) Tryz.underlying67 (by decide) (by kernel_rfl) (by kernel_rfl) (by omega) hok.2) ?_
 refine AB rE k [] fun w8 v=>?_
 refine AP v (mO s j (b.take n.toNat) w8 (Cl.below (Cl.take hx _) v.B) (by omega) (by omega)) fun w9 q=>?_
 refine Am ACH q [(0,0)] fun a0 g=>?_
 refine AK g (0,0) (DT (OS (b.take n.toNat))) ⟨?_,g.B⟩
 show _=Ending.returned (DT (cond false _ (cond (!ok) _ _)))
 rw [p]; rfl
def LN (l:List Dk) (nm:List UInt8) (n:Int):Int×Int×Int:=cond (cond (decide (n < 1)) true (decide (120 < n))) (0,0,2) (cond (cond (!(Db nm l).2) true (decide (((Db nm l).1.length:Int) < n))) (0,0,16) (cond (!(AV ((Db nm l).1.getD (n.toNat - 1) default).1 ((Db nm l).1.getD (n.toNat - 1) default).2)) (0,0,1) (((Db nm l).1.getD (n.toNat - 1) default).1,((Db nm l).1.getD (n.toNat - 1) default).2,0)))
noncomputable def ZY:Code:=Tryz.f116.body.getD .skip
def rD:=Al 1 [.code ZY]
def au:=AI rD
def ACG:=Ξ au
def rC:=Ψ au
def qz:=Al 4 (AC rC)
def Tl:=AI qz
def ACF:=Ξ Tl
def qy:=AA (An Ae 90 (AF Tl)) (AF Tl)
def qx:=ν (AC (AC qy))
def Tj:=Ω qx
def xR:=Ξ Tj
def ik:=AA (An Ae 90 (AF Tj)) (AF Tj)
def xQ:=ν (AC (AC ik))
theorem mP (A:Option Addr) (c:Nat) (l:List Dk) (nm:List UInt8) (n:Int) (w:World) (h:EW w A l) (hl:l.length≤4294967296):Calls Tryz.prog 116 ([τ A l.length c,η nm,δ n]:List Value).toArray w fun e w'=>e=.returned (DT (LN l nm n))∧Below (ε w) w w':=by
 refine AS (fn:=Tryz.f116) (c:=ZY) (n:=45) ?_
 have K1:=Wk.start w
 refine CC 1 rD [ι (ε w) [δ 0,δ 0] 41] K1 [] fun w1 K2=>?_
 refine Av K2 [] [] K2.G (fun sp i=>by cases i) fun w2 E2 K3=>?_
 unfold LN
 refine AB au K3 [] fun w3 K4=>?_
 refine AG (cond (decide (n < 1)) true (decide (120 < n))) (fun m=>?_) (fun m=>?_)
 ·refine AB ACG K4 [(0,0)] fun w4 q=>?_
  exact AK q (0,0) (.tuple #[ψ [δ 0,δ 0],δ 2]) ⟨by rw [m]; rfl,q.B⟩
 have hn:1≤n∧n≤120:=by
  cases hd:decide (n < 1) with
  | true=>rw [hd] at m; cases m
  | false=>
   rw [hd] at m
   have h1:=of_decide_eq_false hd
   have h2:¬ 120 < n:=of_decide_eq_false m
   omega
 rw [m]
 refine AB rC K4 [] fun w4 q=>?_
 refine BA (RT A c l nm w w4 h hl q.B) fun en w5 hh=>?_
 obtain ⟨A',p,rfl,hok,hx,b5⟩:=hh
 generalize Db nm l=r at *
 obtain ⟨a,ok⟩:=r
 refine ⟨_,rfl,?_⟩
 have K6:=q.below b5
 refine As 4 qz K6 [] fun w6 K7=>?_
 refine Av K7 [] [] K7.G (fun sp i=>by cases i) fun w7 E7 K8=>?_
 refine AB Tl K8 [] fun w8 K9=>?_
 refine AG (cond (!ok) true (decide ((a.length:Int) < n))) (fun o=>?_) (fun o=>?_)
 ·refine AB ACF K9 [(0,0)] fun w9 d=>?_
  refine AK d (0,0) (.tuple #[ψ [δ 0,δ 0],δ 16]) ⟨?_,d.B⟩
  show _=Ending.returned (DT (cond false _ (cond (cond (!ok) true (decide ((a.length:Int) < n))) _ _)))
  rw [o]; rfl
 have j:n.toNat - 1 < a.length:=by
  cases ok with
  | false=>cases o
  | true=>
   have h2:¬ (a.length:Int) < n:=of_decide_eq_false o
   omega
 obtain ⟨v,hv⟩:∃ v,a[n.toNat - 1]?=some v:=⟨_,List.getElem?_eq_getElem j⟩
 have a0:a.getD (n.toNat - 1) default=v:=by rw [List.getD_eq_getElem?_getD,hv]; rfl
 have hS:∀ (x y:Int×Int×Int),cond false x (cond (cond (!((a,ok):List (Int×Int)×Bool).2) true (decide ((((a,ok):List (Int×Int)×Bool).1.length:Int) < n))) y (cond (!(AV (((a,ok):List (Int×Int)×Bool).1.getD (n.toNat - 1) default).1 (((a,ok):List (Int×Int)×Bool).1.getD (n.toNat - 1) default).2)) (0,0,1) ((((a,ok):List (Int×Int)×Bool).1.getD (n.toNat - 1) default).1,(((a,ok):List (Int×Int)×Bool).1.getD (n.toNat - 1) default).2,0)))=cond (!(AV v.1 v.2)) (0,0,1) (v.1,v.2,0):=fun x y=>by
  show cond (cond (!ok) true (decide ((a.length:Int) < n))) y (cond (!(AV (a.getD (n.toNat - 1) default).1 (a.getD (n.toNat - 1) default).2)) (0,0,1) ((a.getD (n.toNat - 1) default).1,(a.getD (n.toNat - 1) default).2,0))=_
  rw [o,a0]; rfl
 rw [hS]
 obtain ⟨g,f,rfl,hg,ha⟩:=hx.all (by show 0 < a.length; omega)
 have hr:=ha _ v hv
 have he:IntKind.i64.wrap (n - 1)=((n.toNat - 1:Nat):Int):=by rw [IntWalk.i64_in _ (by omega)]; omega
 refine Ak Ae qy K9 [] fun w9 d=>?_
 refine AU [(2,δ n),(6,ζ (ε w)),(8,τ (some ⟨g,f,none⟩) a.length p),(32,τ (some ⟨g,f,none⟩) a.length p),(34,δ (IntKind.i64.wrap (n - 1)))] fun i0=>?_
 rw [he]
 refine Ay (g:=g) (off:=f) (cap:=p) (sz:=2) (k:=n.toNat - 1) (len:=a.length) (some 35) j Tryz.underlying67 ?_
 refine BN 41 g (f + (n.toNat - 1) * 2) (BT v) (some 36) (Ag hr hg d.B) ?_
 refine AB qx d [] fun z c0=>?_
 refine AP c0 (args:=[ψ [δ v.1,δ v.2]]) (Bt v.1 v.2 z) fun g0 b0=>?_
 refine AB Tj b0 [] fun e0 t=>?_
 refine AG (!(AV v.1 v.2)) (fun c3=>?_) (fun c3=>?_)
 ·refine AB xR t [(0,0)] fun u b=>?_
  exact AK b (0,0) (.tuple #[ψ [δ 0,δ 0],δ 1]) ⟨by rw [c3]; rfl,b.B⟩
 rw [c3]
 refine Ak Ae ik t [] fun u b=>?_
 refine AU [(6,ζ (ε w)),(40,τ (some ⟨g,f,none⟩) a.length p),(42,δ (IntKind.i64.wrap (n - 1)))] fun h0=>?_
 rw [he]
 refine Ay (g:=g) (off:=f) (cap:=p) (sz:=2) (k:=n.toNat - 1) (len:=a.length) (some 43) j Tryz.underlying67 ?_
 refine BN 41 g (f + (n.toNat - 1) * 2) (BT v) (some 44) (Ag hr hg b.B) ?_
 refine Am xQ b [(0,0)] fun d0 s=>?_
 exact AK s (0,0) (.tuple #[ψ (BT v),δ 0]) ⟨rfl,s.B⟩
abbrev Gd:=Int×Int×Int
def M2 (e:Gd):Bool:=cond (cond (!(AV e.2.1 e.2.2)) true (decide (e.1 < -1000000000000))) true (decide (1000000000000 < e.1))
def HS (all:List Gd) (kn kd:Int):List Gd→Nat→Int→Int
 | [],_,b=>b
 | e :: tl,i,b=>HS all kn kd tl (i + 1) (cond (cond (decide (EB e.1 1 kn kd≤0)) (cond (decide (b < 0)) true (decide ((all.getD b.toNat default).1 < e.1))) false) (i:Int) b)
theorem gE {all l:List Gd} {a c b:Int} (i:Nat) (e:Gd) (hi:l[i]?=some e):HS all a c (l.drop i) i b=HS all a c (l.drop (i + 1)) (i + 1) (cond (cond (decide (EB e.1 1 a c≤0)) (cond (decide (b < 0)) true (decide ((all.getD b.toNat default).1 < e.1))) false) (i:Int) b):=by
 have hl:i < l.length:=(List.getElem?_eq_some_iff.1 hi).1
 have he:l[i]=e:=(List.getElem?_eq_some_iff.1 hi).2
 rw [← List.getElem_cons_drop hl,HS,he]
def OU (es:List Gd) (b:Int):Int×Int×Int:=cond (decide (b < 0)) (0,0,16) ((es.getD b.toNat default).2.1,(es.getD b.toNat default).2.2,0)
def Dc (es:List Gd) (kn kd:Int):Int×Int×Int:=cond (decide (64 < (es.length:Int))) (0,0,3) (cond (!(AV kn kd)) (0,0,1) (cond (es.any M2) (0,0,1) (OU es (HS es kn kd es 0 (-1)))))
noncomputable def ZV:Code:=Tryz.f101.body.getD .skip
def aq:=ν [.code ZV]
def ACB:=Ξ aq
def qt:=Ψ aq
def ap:=Ω qt
def ACA:=Ξ ap
def ao:=Ψ ap
def Tg:=ν (Ar ao)
def qs:=AA (An Ae 90 (AD Tg)) (AD Tg)
def qr:=Al 8 (AC (AC qs))
def qq:=AI qr
def xP:=Ξ qq
def QE:=Ψ Tg
def QD:=ν (Ar QE)
def ij:=AA (An Ae 90 (AD QD)) (AD QD)
def Uf:=Al 15 (AC (AC ij))
def xO:=AI Uf
def QC:=Ψ QD
def xN:=Ξ QC
def Ue:=AA (An Ae 90 (AF QC)) (AF QC)
def ii:=AA (An (GP 41) 90 (AC Ue)) (AC Ue)
def xM:=Ω ii
theorem Oz (A:Option Addr) (c:Nat) (es:List Gd) (a d:Int) (w:World) (h:Cs w A es) (hl:es.length≤4294967296):Calls Tryz.prog 101 ([τ A es.length c,ψ [δ a,δ d]]:List Value).toArray w fun e w'=>e=.returned (DT (Dc es a d))∧Below (ε w) w w':=by
 refine AS (fn:=Tryz.f101) (c:=ZV) (n:=78) ?_
 have K1:=Wk.start w
 refine Ah aq [ι (ε w) [δ a,δ d] 41,ι (ε w + 1) [δ 0,δ 0] 41] K1 [] fun w1 K2=>?_
 unfold Dc
 refine AG (decide (64 < (es.length:Int))) (fun c1=>?_) (fun c1=>?_)
 ·refine AB ACB K2 [(1,0)] fun w2 K3=>?_
  exact AK K3 (1,0) (.tuple #[ψ [δ 0,δ 0],δ 3]) ⟨by rw [c1]; rfl,K3.B⟩
 rw [c1]
 refine AB qt K2 [(0,0)] fun w2 K3=>?_
 refine AP K3 (args:=[ψ [δ a,δ d]]) (Bt a d w2) fun w3 K4=>?_
 refine AB ap K4 [] fun w4 K5=>?_
 refine AG (!(AV a d)) (fun c2=>?_) (fun c2=>?_)
 ·refine AB ACA K5 [(1,0)] fun w5 o=>?_
  exact AK o (1,0) (.tuple #[ψ [δ 0,δ 0],δ 1]) ⟨by rw [c2]; rfl,o.B⟩
 rw [c2]
 refine AB ao K5 [] fun w5 o=>?_
 refine AU [(0,τ A es.length c),(3,ζ (ε w)),(4,ζ (ε w + 1)),(19,τ A es.length c),(20,δ (es.length:Int)),(21,δ ((0:Nat):Int))] fun E6=>?_
 refine Bo (by kernel_rfl) (fun E wx=>∃ (i:Nat) (E0:Nat→Value),i≤es.length∧E=BE E0 [(0,τ A es.length c),(3,ζ (ε w)),(4,ζ (ε w + 1)),(19,τ A es.length c),(20,δ (es.length:Int)),(21,δ (i:Int))]∧(∀ (k:Nat) (e:Gd),k < i→es[k]?=some e→M2 e=false)∧Wk w wx [ι (ε w) [δ a,δ d] 41,ι (ε w + 1) [δ 0,δ 0] 41] [] []) (fun E _=>es.length - AL (E 21)) ⟨0,E6,Nat.zero_le _,rfl,fun k e hk=>absurd hk (Nat.not_lt_zero _),o⟩ ?_
 clear K2 K3 K4 K5 o
 rintro E wx ⟨i,E0,hi,rfl,hv,K3⟩ j
 refine AB Tg K3 [] fun w4 K4=>?_
 refine AG (decide ((i:Int) < (es.length:Int))) (fun c5=>?_) (fun c5=>?_)
 ·have l:i < es.length:=by have:=of_decide_eq_true c5; omega
  obtain ⟨e,he⟩:∃ e,es[i]?=some e:=⟨_,List.getElem?_eq_getElem l⟩
  obtain ⟨g,f,rfl,hg,ha⟩:=h.all (by omega)
  have hr:=ha i _ he
  refine Ak Ae qs K4 [] fun w6 o=>?_
  refine Ay (g:=g) (off:=f) (cap:=c) (sz:=3) (k:=i) (len:=es.length) (some 23) l Tryz.underlying57 ?_
  refine BN 101 g (f + i * 3) (IX e) (some 24) (Ag hr hg o.B) ?_
  refine CC 8 qr [ι (ε w) [δ a,δ d] 41,ι (ε w + 1) [δ 0,δ 0] 41,ι (ε w6) (IX e) 101] o [(2,0)] fun w7 q=>?_
  refine Av q [(1,2,1),(6,2,0),(11,2,0)] [⟨2,[(26,ψ [δ e.2.1,δ e.2.2])],ξ (AV e.2.1 e.2.2),true⟩] q.G (fun sp p=>?_) fun w8 E8 z=>?_
  ·rw [List.mem_singleton.1 p]
   exact AY 63 [.tmp 26] _ (fun _=>by kernel_rfl) fun hc u hu=>AQ hu (Bt e.2.1 e.2.2 u)
  refine AB qq z [] fun w9 K9=>?_
  refine AG (cond (cond (!(AV e.2.1 e.2.2)) true (decide (e.1 < -1000000000000))) true (decide (1000000000000 < e.1))) (fun r=>?_) (fun r=>?_)
  ·refine AB xP K9 [(1,0)] fun a0 m=>?_
   have d0:es.any M2=true:=List.any_eq_true.2 ⟨e,List.mem_of_getElem? he,r⟩
   exact AK m (1,0) (.tuple #[ψ [δ 0,δ 0],δ 1]) ⟨by rw [d0]; rfl,m.B⟩
  refine AB (AZ ao) K9 [] fun a0 m=>?_
  refine AU [(0,τ (some ⟨g,f,none⟩) es.length c),(3,ζ (ε w)),(4,ζ (ε w + 1)),(19,τ (some ⟨g,f,none⟩) es.length c),(20,δ (es.length:Int)),(21,δ (IntKind.i64.wrap ((i:Int) + 1)))] fun y=>?_
  rw [Bl i (by omega)]
  refine j _ _ ⟨i + 1,y,l,rfl,fun k x hk hx=>?_,m.pk [0,1] []⟩ ?_
  ·by_cases hki:k=i
   ·subst hki
    obtain rfl:=Option.some.inj (he.symm.trans hx)
    exact r
   exact hv k x (by omega) hx
  show es.length - AL (δ ((i + 1:Nat):Int)) < es.length - AL (δ (i:Int))
  simp only [AL]
  omega
 have c0:i=es.length:=by have:=of_decide_eq_false c5; omega
 have d0:es.any M2=false:=by
  rw [List.any_eq_false]
  intro e he
  obtain ⟨k,hk⟩:=List.mem_iff_getElem?.1 he
  rw [hv k e (by have:=(List.getElem?_eq_some_iff.1 hk).1; omega) hk]
  decide
 rw [d0]
 clear j hv c1 c2
 refine AB QE K4 [] fun w5 K5=>?_
 refine AU [(0,τ A es.length c),(3,ζ (ε w)),(4,ζ (ε w + 1)),(8,δ (-1)),(41,τ A es.length c),(42,δ (es.length:Int)),(43,δ ((0:Nat):Int))] fun E5=>?_
 refine Bo (by kernel_rfl) (fun E wx=>∃ (i:Nat) (b:Int) (E0:Nat→Value),i≤es.length∧E=BE E0 [(0,τ A es.length c),(3,ζ (ε w)),(4,ζ (ε w + 1)),(8,δ b),(41,τ A es.length c),(42,δ (es.length:Int)),(43,δ (i:Int))]∧(b=-1∨∃ k:Nat,k < i∧b=(k:Int))∧HS es a d es 0 (-1)=HS es a d (es.drop i) i b∧Wk w wx [ι (ε w) [δ a,δ d] 41,ι (ε w + 1) [δ 0,δ 0] 41] [] []) (fun E _=>es.length - AL (E 43)) ⟨0,-1,E5,Nat.zero_le _,rfl,.inl rfl,rfl,K5⟩ ?_
 clear K3 K4 K5 c0 hi c5
 rintro E wx ⟨i,b,E0,hi,rfl,hb,hv,K3⟩ j
 refine AB QD K3 [] fun w4 K4=>?_
 refine AG (decide ((i:Int) < (es.length:Int))) (fun c5=>?_) (fun c5=>?_)
 ·have l:i < es.length:=by have:=of_decide_eq_true c5; omega
  obtain ⟨e,he⟩:∃ e,es[i]?=some e:=⟨_,List.getElem?_eq_getElem l⟩
  rw [gE i e he] at hv
  obtain ⟨g,f,rfl,hg,ha⟩:=h.all (by omega)
  have hr:=ha i _ he
  refine Ak Ae ij K4 [] fun w6 o=>?_
  refine Ay (g:=g) (off:=f) (cap:=c) (sz:=3) (k:=i) (len:=es.length) (some 46) l Tryz.underlying57 ?_
  refine BN 101 g (f + i * 3) (IX e) (some 47) (Ag hr hg o.B) ?_
  refine CC 15 Uf [ι (ε w) [δ a,δ d] 41,ι (ε w + 1) [δ 0,δ 0] 41,ι (ε w6) (IX e) 101] o [(2,0)] fun w7 q=>?_
  have fin:∀ (t:Bool) (E8:Nat→Value) (w8:World),Wk w w8 [ι (ε w) [δ a,δ d] 41,ι (ε w + 1) [δ 0,δ 0] 41,ι (ε w6) (IX e) 101] [] []→cond (decide (EB e.1 1 a d≤0)) (cond (decide (b < 0)) true (decide ((es.getD b.toNat default).1 < e.1))) false=t→At Tryz.prog 101 (fun e w'=>e=.returned (DT (cond false (0,0,3) (cond false (0,0,1) (cond false (0,0,1) (OU es (HS es a d es 0 (-1)))))))∧Below (ε w) w w') (AM Uf) (Fr 78 (BE E8 [(0,τ (some ⟨g,f,none⟩) es.length c),(3,ζ (ε w)),(4,ζ (ε w + 1)),(8,δ b),(9,δ (i:Int)),(41,τ (some ⟨g,f,none⟩) es.length c),(42,δ (es.length:Int)),(43,δ (i:Int)),(67,ξ t)])) w8:=by
   intro t E8 w8 z ht
   rw [ht] at hv
   refine AB xO z [] fun w9 K9=>?_
   refine AG t (fun r=>?_) (fun r=>?_) <;> rw [r] at hv
   ·refine AB (AZ QE) K9 [] fun a0 m=>?_
    refine AU [(0,τ (some ⟨g,f,none⟩) es.length c),(3,ζ (ε w)),(4,ζ (ε w + 1)),(8,δ (i:Int)),(41,τ (some ⟨g,f,none⟩) es.length c),(42,δ (es.length:Int)),(43,δ (IntKind.i64.wrap ((i:Int) + 1)))] fun y=>?_
    rw [Bl i (by omega)]
    refine j _ _ ⟨i + 1,(i:Int),y,l,rfl,.inr ⟨i,Nat.lt_succ_self _,rfl⟩,hv,m.pk [0,1] []⟩ ?_
    show es.length - AL (δ ((i + 1:Nat):Int)) < es.length - AL (δ (i:Int))
    simp only [AL]
    omega
   refine AB (AZ QE) K9 [] fun a0 m=>?_
   refine AU [(0,τ (some ⟨g,f,none⟩) es.length c),(3,ζ (ε w)),(4,ζ (ε w + 1)),(8,δ b),(41,τ (some ⟨g,f,none⟩) es.length c),(42,δ (es.length:Int)),(43,δ (IntKind.i64.wrap ((i:Int) + 1)))] fun y=>?_
   rw [Bl i (by omega)]
   refine j _ _ ⟨i + 1,b,y,l,rfl,by rcases hb with hb | ⟨k,hk,hb⟩; exact .inl hb; exact .inr ⟨k,by omega,hb⟩,hv,m.pk [0,1] []⟩ ?_
   show es.length - AL (δ ((i + 1:Nat):Int)) < es.length - AL (δ (i:Int))
   simp only [AL]
   omega
  rcases hb with rfl | ⟨k,hk,rfl⟩
  ·refine Av q [(1,2,0),(3,0,0),(11,2,0),(16,2,0)] [⟨2,[(49,δ e.1)],ψ [δ e.1,δ 1],true⟩,⟨4,[(50,ψ [δ e.1,δ 1]),(51,ψ [δ a,δ d])],δ (EB e.1 1 a d),true⟩,⟨14,[(60,τ (some ⟨g,f,none⟩) es.length c),(61,δ (-1))],ζ (ε w6),(!(decide ((-1:Int) < 0))) && ((decide (EB e.1 1 a d≤0)) && true)⟩] q.G (fun sp p=>?_) fun w8 E8 z=>?_
   ·simp only [List.mem_cons,List.not_mem_nil,or_false] at p
    rcases p with rfl | rfl | rfl
    ·exact AY 119 [.tmp 49] _ (fun _=>by kernel_rfl) fun hc u hu=>AQ hu (Lf e.1 u)
    ·exact AY 93 [.tmp 50,.tmp 51] _ (fun _=>by kernel_rfl) fun hc u hu=>AQ hu (IZ e.1 1 a d u)
    exact BQ fun hc E u _=>by cases hc
   refine AU [(0,τ (some ⟨g,f,none⟩) es.length c),(3,ζ (ε w)),(4,ζ (ε w + 1)),(8,δ (-1)),(9,δ (i:Int)),(41,τ (some ⟨g,f,none⟩) es.length c),(42,δ (es.length:Int)),(43,δ (i:Int)),(67,ξ (cond (decide (EB e.1 1 a d≤0)) (cond (decide ((-1:Int) < 0)) true (decide (e.1 < e.1))) false))] fun E9=>?_
   exact fin _ E9 w8 z rfl
  obtain ⟨v,s⟩:∃ e,es[k]?=some e:=⟨_,List.getElem?_eq_getElem (by omega)⟩
  have b0:es.getD k default=v:=by rw [List.getD_eq_getElem?_getD,s]; rfl
  refine Av q (mem:=[ι (ε w) [δ a,δ d] 41,ι (ε w + 1) [δ 0,δ 0] 41,ι (ε w6) (IX e) 101,⟨g,f + k * 3,IX v,101,false⟩]) [(1,2,0),(3,0,0),(11,2,0),(16,3,0)] [⟨2,[(49,δ e.1)],ψ [δ e.1,δ 1],true⟩,⟨4,[(50,ψ [δ e.1,δ 1]),(51,ψ [δ a,δ d])],δ (EB e.1 1 a d),true⟩,⟨14,[(60,τ (some ⟨g,f,none⟩) es.length c),(61,δ (k:Int))],.pointer (some ⟨g,f + k * 3,none⟩),(!(decide ((k:Int) < 0))) && ((decide (EB e.1 1 a d≤0)) && true)⟩] (fun x hx=>?_) (fun sp p=>?_) fun w8 E8 z=>?_
  ·simp only [List.mem_cons,List.not_mem_nil,or_false] at hx
   rcases hx with rfl | rfl | rfl | rfl
   ·exact q.ent 0 rfl
   ·exact q.ent 1 rfl
   ·exact q.ent 2 rfl
   exact ⟨Nat.lt_of_lt_of_le hg q.B.size,Ag (ha k v s) hg q.B⟩
  ·simp only [List.mem_cons,List.not_mem_nil,or_false] at p
   rcases p with rfl | rfl | rfl
   ·exact AY 119 [.tmp 49] _ (fun _=>by kernel_rfl) fun hc u hu=>AQ hu (Lf e.1 u)
   ·exact AY 93 [.tmp 50,.tmp 51] _ (fun _=>by kernel_rfl) fun hc u hu=>AQ hu (IZ e.1 1 a d u)
   exact BQ fun _ E u _=>CE (sz:=3) (cap:=c) (len:=es.length) (k:=k) 57 (.tmp 60) (.tmp 61) (by omega) Tryz.underlying57
  refine AU [(0,τ (some ⟨g,f,none⟩) es.length c),(3,ζ (ε w)),(4,ζ (ε w + 1)),(8,δ (k:Int)),(9,δ (i:Int)),(41,τ (some ⟨g,f,none⟩) es.length c),(42,δ (es.length:Int)),(43,δ (i:Int)),(67,ξ (cond (decide (EB e.1 1 a d≤0)) (cond (decide ((k:Int) < 0)) true (decide (v.1 < e.1))) false))] fun E9=>?_
  refine fin _ E9 w8 z ?_
  rw [Int.toNat_natCast,b0]
 have c0:i=es.length:=by have:=of_decide_eq_false c5; omega
 rw [c0,List.drop_length,HS] at hv
 rw [hv]
 refine AB QC K4 [] fun w5 K5=>?_
 refine AG (decide (b < 0)) (fun c6=>?_) (fun c6=>?_)
 ·refine AB xN K5 [(1,0)] fun w6 o=>?_
  refine AK o (1,0) (.tuple #[ψ [δ 0,δ 0],δ 16]) ⟨?_,o.B⟩
  unfold OU
  rw [c6]
  rfl
 rcases hb with rfl | ⟨k,hk,rfl⟩
 ·cases c6
 obtain ⟨v,s⟩:∃ e,es[k]?=some e:=⟨_,List.getElem?_eq_getElem (by omega)⟩
 have b0:es.getD k default=v:=by rw [List.getD_eq_getElem?_getD,s]; rfl
 obtain ⟨g,f,rfl,hg,ha⟩:=h.all (by omega)
 refine Ak Ae Ue K5 [] fun w6 o=>?_
 refine Ay (g:=g) (off:=f) (cap:=c) (sz:=3) (k:=k) (len:=es.length) (some 75) (by omega) Tryz.underlying57 ?_
 refine Ak (GP 41) ii o [] fun w7 q=>?_
 refine BN 41 g (f + k * 3 + 1) _ (some 77) (Q3 (Ag (ha k v s) hg q.B) 1 [δ v.2.1,δ v.2.2] rfl) ?_
 refine Am xM q [(1,0)] fun w8 z=>?_
 refine AK z (1,0) (.tuple #[ψ [δ v.2.1,δ v.2.2],δ 0]) ⟨?_,z.B⟩
 unfold OU
 rw [c6,Int.toNat_natCast,b0]
 rfl
end
end Go.Proofs.YtkjbdagicjbjjaaGreat

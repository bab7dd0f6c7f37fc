/- Contracts of functions, part 20. -/
import Derived.Test.YtkpemkkbjfbmaaaGreatMc19
import Derived.DeepKeys4
set_option linter.all false
namespace Go.Proofs.YtkpemkkbjfbmaaaGreat
open List
noncomputable section
open Go.RowKit
set_option maxRecDepth 100000
set_option maxHeartbeats 1000000
attribute [local irreducible] BI BQ AD AE AG Au Ab AO A8 Bi Ct BX BO At Fr
def Dt (nm:List UInt8):List IY->List (Int×Int)×Bool
 | []=>([],false)
 | e::tl=>cond (decide (e.1=nm)) (e.2,true) (Dt nm tl)
theorem Y1 {nm:List UInt8} {l:List IY} (i:Nat) (e:IY) (hi:l[i]?=some e):Dt nm (l.drop i)=cond (decide (e.1=nm)) (e.2,true) (Dt nm (l.drop (i+1))):=by have hl:i<l.length:=(List.getElem?_eq_some_iff.1 hi).1;have he:l[i]=e:=(List.getElem?_eq_some_iff.1 hi).2;rw[<-getElem_cons_drop hl,Dt,he]
noncomputable def Zr:Code:=Tryz.f123.body.getD .skip
def bS:=ν [.code Zr]
def T4:=ν (Au bS)
def rS:=AB (Aq Aa 90 (AE T4)) (AE T4)
def rR:=Ac 4 (AD (AD rS))
def rQ:=Ω rR
def ADO:=Θ rQ
def ADN:=Ξ T4
theorem Rm (A:Option Addr) (c:Nat) (l:List IY) (nm:List UInt8) (w o:World) (h:Gn w A l) (hl:l.length<=4294967296) (B:Below (U w) w o):Calls Tryz.prog 123 ([V A l.length c,Y nm]:List Value).toArray o λe w'=>∃A' c',e=.returned (.tuple #[V A' (Dt nm l).1.length c',I (Dt nm l).2])/\iJ A' (Dt nm l).1.length c'/\HV w A' (Dt nm l).1/\Below (U o) o w':=by
 refine AS (fn:=Tryz.f123) (c:=Zr) (n:=21) ?_;have K1:=Wk.start o;refine AC bS K1 [] λw1 K2=>?_;refine AX [(1,Y nm),(8,V A l.length c),(9,J (l.length:Int)),(10,J ((0:Nat):Int))] λE2=>?_;refine Bp (by kernel_rfl) (λE wx=>∃(i:Nat) (E0:Nat->Value),i<=l.length/\E=BN E0 [(1,Y nm),(8,V A l.length c),(9,J (l.length:Int)),(10,J (i:Int))]/\Dt nm l=Dt nm (l.drop i)/\Wk o wx [] [] []) (λE _=>l.length-AP (E 10)) ⟨0,E2,Nat.zero_le _,rfl,rfl,K2⟩ ?_;rintro E wx ⟨i,E0,hi,rfl,hv,K3⟩ m;refine AC T4 K3 [] λw4 K4=>?_;refine AH (decide ((i:Int)<(l.length:Int))) (λv=>?_) (λv=>?_)
 ·have d:i<l.length:=by have:=of_decide_eq_true v;omega
  obtain⟨e,he⟩:∃e,l[i]?=some e:=⟨_,getElem?_eq_getElem d⟩;rw[Y1 i e he]at hv;obtain⟨g,f,rfl,hg,ha⟩:=h.all (by omega);obtain⟨A1,z,hr,s,hx⟩:=ha i _ he;refine Ao Aa rS K4 [] λw6 p=>?_;refine Aw (g:=g) (off:=f) (cap:=c) (sz:=2) (k:=i) (len:=l.length) (some 12) d Tryz.underlying40 ?_;refine Bd 96 g (f+i*2) _ (some 13) (Aj hr hg (B.trans (p.B.mono B.size))) ?_;refine Bg 4 rR [N (U w6) [Y (e.1),V A1 e.2.length z] 96] p [(0,0)] λw7 K7=>?_;refine Ap K7 [(1,0,0)] [⟨3,[(15,Y (e.1)),(16,Y nm)],I (decide (e.1=nm)),true⟩] K7.G (λsp r=>?_) λw8 E8 K8=>?_
  ·rw[mem_singleton.1 r];exact BR λ_ E u _=>Iq (T:=9) (T':=9) (x:=.tmp 15) (y:=.tmp 16)
  refine AC rQ K8 [] λw9 K9=>?_;refine AH (decide (e.1=nm)) (λj=>?_) (λj=>?_)
  ·refine AC ADO K9 [(0,1)] λq b=>?_;have hS:Dt nm l=(e.2,true):=by rw[hv,j];rfl
   refine AN b (0,0) (.tuple #[V A1 e.2.length z,I true]) ?_;rw[hS];exact⟨A1,z,rfl,s,hx,b.B⟩
  refine AC (Ab bS) K9 [] λq b=>?_;refine AX [(1,Y nm),(8,V (some ⟨g,f,none⟩) l.length c),(9,J (l.length:Int)),(10,J (IntKind.i64.wrap ((i:Int)+1)))] λa0=>?_;rw[Bs i (by omega)];refine m _ _ ⟨i+1,a0,d,rfl,by rw[hv,j];rfl,b.pk [] []⟩ ?_;show l.length-AP (J ((i+1:Nat):Int))<l.length-AP (J (i:Int));simp only[AP];omega
 have t:i=l.length:=by have:=of_decide_eq_false v;omega
 rw[t,drop_length,Dt]at hv;refine AC ADN K4 [] λw6 p=>?_;refine AN p (0,0) (.tuple #[V none 0 0,I false]) ?_;rw[hv];exact⟨none,0,rfl,⟨Nat.le_refl _,λa ha=>by cases ha⟩,.inl rfl,p.B⟩
theorem mt {P:Program} {o:Oper} {ρ:Operand->Value} {w:World} {t e:TypeId} {x:Operand} {a:Option Addr} {len cap sz:Nat} (hop:o.op=.slice t x (some (.const (J 1))) none none) (ht:P.underlying t=some (.slice e)) (hx:ρ x=.slice a len cap) (hc:ρ (.const (J 1))=J 1) (d:1<=len) (hs:(P.info? e).map (·.size)=some sz):(execOp ρ o).run P w=.ok (.value (sliced a 1 len cap sz)) w:=by
 have he:P.underlying t=some (.slice (P.elem t)):=by simp[Program.elem,ht]
 have c:P.elem t=e:=by simp[Program.elem,ht]
 have hl:=run_slice_l (P:=P) (w:=w) t a len cap he .i64 1 (by omega) (by omega);have b:(sizeOf (P.elem t)).run P w=.ok sz w:=by
  rw[c]
  cases hq:P.info? e with
  | none=>rw[hq]at hs;cases hs
  | some inf=>
   have b:inf.size=sz:=by rw[hq]at hs;exact Option.some.inj hs
   simp[sizeOf,typeInfo,hq,b]
 rw[b]at hl;simp[execOp,hop,hx,hc,run_sliceAt_slice,he,hl]
def JE (n:Nat):List (Int×Int)->Int×Int->Int×Int×Int
 | [],s=>L3 s.1 s.2 (n:Int) 1
 | e::tl,s=>cond (!((FL s.1 s.2 e.1 e.2).2.2==0)) (0,0,(FL s.1 s.2 e.1 e.2).2.2) (JE n tl ((FL s.1 s.2 e.1 e.2).1,(FL s.1 s.2 e.1 e.2).2.1))
theorem gM {n:Nat} {l:List (Int×Int)} {s:Int×Int} (i:Nat) (e:Int×Int) (hi:l[i]?=some e):JE n (l.drop i) s=cond (!((FL s.1 s.2 e.1 e.2).2.2==0)) (0,0,(FL s.1 s.2 e.1 e.2).2.2) (JE n (l.drop (i+1)) ((FL s.1 s.2 e.1 e.2).1,(FL s.1 s.2 e.1 e.2).2.1)):=by have hl:i<l.length:=(List.getElem?_eq_some_iff.1 hi).1;have he:l[i]=e:=(List.getElem?_eq_some_iff.1 hi).2;rw[<-getElem_cons_drop hl,JE,he]
def wb (n:Nat):List (Int×Int)->Int×Int×Int
 | []=>(0,0,16)
 | x::tl=>JE n tl x
def RV (l:List (Int×Int)):Int×Int×Int:=cond (decide (120<(l.length:Int))) (0,0,3) (cond (l.any λe=>!(AV e.1 e.2)) (0,0,1) (wb l.length l))
def IV:Op->Bool
 | .slice _ _ _ _ _=>true
 | _=>false
noncomputable def Zo:Code:=Tryz.f124.body.getD .skip
def bN:=ν [.code Zo]
def ADJ:=Θ bN
def bM:=Ξ bN
def T1:=ν (Au bM)
def rL:=AB (Aq Aa 90 (AE T1)) (AE T1)
def rK:=ν (AD (AD rL))
def rJ:=Ψ rK
def ADI:=Θ rJ
def T0:=Ξ T1
def ADH:=Θ T0
def Uz:=AB (Aq Aa 90 (AG T0)) (AG T0)
def ig:=AB (Aq IV 90 (AD (AD Uz))) (AD (AD Uz))
def Uy:=Ψ ig
def QJ:=ν (Au Uy)
def ie:=AB (Aq Aa 90 (AE QJ)) (AE QJ)
def ib:=ν (AD (AD ie))
def ia:=Ψ ib
def yU:=Θ ia
def iZ:=Ac 20 (AG QJ)
def yT:=Ω iZ
theorem mY (A:Option Addr) (c:Nat) (l:List (Int×Int)) (w:World) (h:HV w A l) (hl:l.length<=4294967296) (m0:l.length<=c):Calls Tryz.prog 124 ([V A l.length c]:List Value).toArray w λe w'=>e=.returned (CY (RV l))/\Below (U w) w w':=by
 refine AS (fn:=Tryz.f124) (c:=Zo) (n:=59) ?_;have K1:=Wk.start w;refine An bN [N (U w) [J 0,J 0] 47] K1 [] λw1 K2=>?_;unfold RV;refine AH (decide (120<(l.length:Int))) (λc1=>?_) (λc1=>?_)
 ·refine AC ADJ K2 [(0,0)] λw2 K3=>?_;exact AN K3 (0,0) (.tuple #[D [J 0,J 0],J 3]) ⟨by rw[c1];rfl,K3.B⟩
 rw[c1];refine AC bM K2 [] λw2 K3=>?_;refine AX [(0,V A l.length c),(2,Z (U w)),(15,V A l.length c),(16,J (l.length:Int)),(17,J ((0:Nat):Int))] λE3=>?_;refine Bp (by kernel_rfl) (λE wx=>∃(i:Nat) (E0:Nat->Value),i<=l.length/\E=BN E0 [(0,V A l.length c),(2,Z (U w)),(15,V A l.length c),(16,J (l.length:Int)),(17,J (i:Int))]/\(∀(k:Nat) (e:Int×Int),k<i->l[k]?=some e->AV e.1 e.2=true)/\Wk w wx [N (U w) [J 0,J 0] 47] [] []) (λE _=>l.length-AP (E 17)) ⟨0,E3,Nat.zero_le _,rfl,λk e hk=>absurd hk (Nat.not_lt_zero _),K3⟩ ?_;clear K2 K3;rintro E wx ⟨i,E0,hi,rfl,hv,K3⟩ b;refine AC T1 K3 [] λw4 K4=>?_;refine AH (decide ((i:Int)<(l.length:Int))) (λc5=>?_) (λc5=>?_)
 ·have d:i<l.length:=by have:=of_decide_eq_true c5;omega
  obtain⟨e,he⟩:∃e,l[i]?=some e:=⟨_,getElem?_eq_getElem d⟩;obtain⟨g,f,rfl,hg,ha⟩:=h.all (by omega);have hr:=ha i _ he;refine Ao Aa rL K4 [] λw6 v=>?_;refine Aw (g:=g) (off:=f) (cap:=c) (sz:=2) (k:=i) (len:=l.length) (some 19) d Tryz.underlying45 ?_;refine Bd 47 g (f+i*2) (BD e) (some 20) (Aj hr hg v.B) ?_;refine An rK [N (U w) [J 0,J 0] 47,N (U w6) (BD e) 47] v [(1,0),(1,0)] λw7 K7=>?_;refine AW K7 (args:=[D [J e.1,J e.2]]) (Bw e.1 e.2 w7) λw8 K8=>?_;refine AC rJ K8 [] λw9 K9=>?_;refine AH (!(AV e.1 e.2)) (λj=>?_) (λj=>?_)
  ·refine AC ADI K9 [(0,0)] λp m=>?_;have c0:(l.any λe=>!(AV e.1 e.2))=true:=any_eq_true.2 ⟨e,mem_of_getElem? he,j⟩;exact AN m (0,0) (.tuple #[D [J 0,J 0],J 1]) ⟨by rw[c0];rfl,m.B⟩
  refine AC (Ab bM) K9 [] λp m=>?_;refine AX [(0,V (some ⟨g,f,none⟩) l.length c),(2,Z (U w)),(15,V (some ⟨g,f,none⟩) l.length c),(16,J (l.length:Int)),(17,J (IntKind.i64.wrap ((i:Int)+1)))] λr0=>?_;rw[Bs i (by omega)];refine b _ _ ⟨i+1,r0,d,rfl,λk x hk hx=>?_,m.pk [0] []⟩ ?_
  ·by_cases hki:k=i
   ·subst hki;obtain rfl:=Option.some.inj (he.symm.trans hx);simpa using j
   exact hv k x (by omega) hx
  show l.length-AP (J ((i+1:Nat):Int))<l.length-AP (J (i:Int));simp only[AP];omega
 have g0:i=l.length:=by have:=of_decide_eq_false c5;omega
 have c0:(l.any λe=>!(AV e.1 e.2))=false:=by rw[any_eq_false];intro e he;obtain⟨k,hk⟩:=mem_iff_getElem?.1 he;rw[hv k e (by have:=(List.getElem?_eq_some_iff.1 hk).1;omega) hk];decide
 rw[c0];clear b hv c1;refine AC T0 K4 [] λw5 K5=>?_;refine AH ((l.length:Int)==0) (λc2=>?_) (λc2=>?_)
 ·obtain rfl:l=[]:=by
   have:(l.length:Int)=0:=by simpa using c2
   exact length_eq_zero_iff.1 (by omega)
  refine AC ADH K5 [(0,0)] λw6 v=>?_;exact AN v (0,0) (.tuple #[D [J 0,J 0],J 16]) ⟨rfl,v.B⟩
 cases l with
 | nil=>cases c2
 | cons x tl=>
  obtain⟨g,f,rfl,hg,ha⟩:=h.all (Nat.succ_pos _);refine Ao Aa Uz K5 [] λw6 v=>?_;refine Aw (g:=g) (off:=f) (cap:=c) (sz:=2) (k:=0) (len:=(x::tl).length) (some 31) (Nat.succ_pos _) Tryz.underlying45 ?_;refine Bd 47 g (f+0*2) (BD x) (some 32) (Aj (ha 0 x rfl) hg v.B) ?_;refine Bn IV ig [N (U w) [J 0,J 0] 47,N (U w6) (BD x) 47] v [(1,0)] λw7 K7=>?_;refine EW (mt (t:=45) (x:=.tmp 33) (a:=some ⟨g,f,none⟩) (len:=(x::tl).length) (cap:=c) (sz:=2) (by kernel_rfl) Tryz.underlying45 (by kernel_rfl) (by kernel_rfl) (Nat.succ_le_succ (Nat.zero_le _)) (by kernel_rfl)) ?_;obtain⟨A2,o,p0,k0⟩:∃A2 o,(0<tl.length->A2=some ⟨g,f+2,none⟩)/\sliced (some ⟨g,f,none⟩) 1 (x::tl).length c 2=V A2 tl.length o:=by refine⟨_,_,λhp=>?_,rfl⟩;rw[if_neg (by simp at m0;omega)];rfl
  rw[k0];refine AC Uy K7 [] λw8 K8=>?_;have l0:wb (x::tl).length (x::tl)=JE (tl.length+1) tl x:=rfl;rw[l0];have S7:=v.B;generalize hid:(U w6)=q at K8;refine AX [(0,V (some ⟨g,f,none⟩) (tl.length+1) c),(2,Z (U w)),(6,Z (U w6)),(34,V A2 tl.length o),(35,J (tl.length:Int)),(36,J ((0:Nat):Int))] λE8=>?_;rw[hid];refine Bp (by kernel_rfl) (λE wx=>∃(i:Nat) (s:Int×Int) (E0:Nat->Value),i<=tl.length/\E=BN E0 [(0,V (some ⟨g,f,none⟩) (tl.length+1) c),(2,Z (U w)),(6,Z q),(34,V A2 tl.length o),(35,J (tl.length:Int)),(36,J (i:Int))]/\JE (tl.length+1) tl x=JE (tl.length+1) (tl.drop i) s/\Wk w wx [N (U w) [J 0,J 0] 47,N q (BD s) 47] [] []) (λE _=>tl.length-AP (E 36)) ⟨0,x,E8,Nat.zero_le _,rfl,rfl,K8⟩ ?_;clear K8;rintro E wx ⟨i,s,E0,hi,rfl,hv,K9⟩ b;refine AC QJ K9 [] λw9 m=>?_;refine AH (decide ((i:Int)<(tl.length:Int))) (λc5=>?_) (λc5=>?_)
  ·have d:i<tl.length:=by have:=of_decide_eq_true c5;omega
   obtain⟨e,he⟩:∃e,tl[i]?=some e:=⟨_,getElem?_eq_getElem d⟩;rw[gM i e he]at hv;obtain rfl:=p0 (by omega);have hr:=ha (i+1) e (by simpa using he);rw[show f+(i+1)*2=f+2+i*2 by omega]at hr;refine Ao Aa ie m [] λp r=>?_;refine Aw (g:=g) (off:=f+2) (cap:=o) (sz:=2) (k:=i) (len:=tl.length) (some 38) d Tryz.underlying45 ?_;refine Bd 47 g (f+2+i*2) (BD e) (some 39) (Aj hr hg r.B) ?_;refine An ib [N (U w) [J 0,J 0] 47,N q (BD s) 47,N (U p) (BD e) 47] r [(2,0),(1,0),(2,0)] λe0 d0=>?_;refine AW d0 (args:=[D [J s.1,J s.2],D [J e.1,J e.2]]) (YU s.1 s.2 e.1 e.2 e0) λa0 z=>?_;refine An ia [N (U w) [J 0,J 0] 47,N q (BD s) 47,N (U p) (BD e) 47,N (U a0) [J (FL s.1 s.2 e.1 e.2).1,J (FL s.1 s.2 e.1 e.2).2.1] 47] z [(3,0)] λj0 h0=>?_;refine AH (!((FL s.1 s.2 e.1 e.2).2.2==0)) (λj=>?_) (λj=>?_)
   ·refine AC yU h0 [(0,0)] λi0 y=>?_;refine AN y (0,0) (.tuple #[D [J 0,J 0],J (FL s.1 s.2 e.1 e.2).2.2]) ⟨?_,y.B⟩;rw[hv,j];rfl
   refine An (Ab Uy) [N (U w) [J 0,J 0] 47,N q [J (FL s.1 s.2 e.1 e.2).1,J (FL s.1 s.2 e.1 e.2).2.1] 47,N (U p) (BD e) 47,N (U a0) [J (FL s.1 s.2 e.1 e.2).1,J (FL s.1 s.2 e.1 e.2).2.1] 47] h0 [(3,0),(1,0)] λi0 y=>?_;refine AX [(0,V (some ⟨g,f,none⟩) (tl.length+1) c),(2,Z (U w)),(6,Z q),(34,V (some ⟨g,f+2,none⟩) tl.length o),(35,J (tl.length:Int)),(36,J (IntKind.i64.wrap ((i:Int)+1)))] λq0=>?_;rw[Bs i (by simp at hl;omega)];refine b _ _ ⟨i+1,((FL s.1 s.2 e.1 e.2).1,(FL s.1 s.2 e.1 e.2).2.1),q0,d,rfl,by rw[hv,j];rfl,y.pk [0,1] []⟩ ?_;show tl.length-AP (J ((i+1:Nat):Int))<tl.length-AP (J (i:Int));simp only[AP];omega
  have g0:i=tl.length:=by have:=of_decide_eq_false c5;omega
  rw[g0,drop_length,JE]at hv;refine Al 20 iZ m [] λe0 r=>?_;refine Fh r [0,1,2,3,4,5,6] [(0,1,0)] [⟨3,[(54,J ((tl.length+1:Nat):Int))],D [J ((tl.length+1:Nat):Int),J 1],true⟩,⟨4,[(52,D (BD s)),(55,D [J ((tl.length+1:Nat):Int),J 1])],CY (L3 s.1 s.2 ((tl.length+1:Nat):Int) 1),true⟩] [(7,0,0),(8,0,0)] r.G (λsp b0=>?_) λt0 a0 d0=>?_
  ·rcases mem_cons.1 b0 with rfl | b0
   ·exact AU 126 [.tmp 54] _ (λ_=>by kernel_rfl) λhc u hu=>AR hu (Lv ((tl.length+1:Nat):Int) u)
   obtain rfl:=mem_singleton.1 b0;exact AU 130 [.tmp 52,.tmp 55] _ (λ_=>by kernel_rfl) λhc u hu=>AR hu (Xu s.1 s.2 ((tl.length+1:Nat):Int) 1 u)
  refine AC yT d0 [] λj0 z=>?_;refine AN z (0,0) (CY (L3 s.1 s.2 ((tl.length+1:Nat):Int) 1)) ⟨?_,z.B⟩;rw[hv];rfl
theorem Cn.take {α:Type} {n:Nat} {f:α->List Value} {w:World} {A:Option Addr} {es:List α} (h:Cn n f w A es) (i:Nat):Cn n f w A (es.take i):=by unfold Cn;rw[map_take];exact RA h i
theorem Lm {P:Program} {o:Oper} {ρ:Operand->Value} {w:World} {t e:TypeId} {x h:Operand} {a:Option Addr} {len cap i:Nat} (hop:o.op=.slice t x none (some h) none) (hu:P.underlying t=some (.slice e)) (hs:Le P e≠none) (hx:ρ x=.slice a len cap) (f:ρ h=J (i:Nat)) (hi:i<=cap) (ha:∀b,a=some b->b.spot=none):(execOp ρ o).run P w=.ok (.value (.slice a i cap)) w:=by
 obtain⟨sz,c⟩:=Option.ne_none_iff_exists'.1 hs;have j:¬(cap:Int)<(i:Int):=by omega
 cases a with
 | none=>simp[execOp,hop,hx,f,Instr.sliceAt,Instr.slice,run_underlying hu,In c,Instr.sliceBounds,Instr.sliceBound,asIntOf,hi,j]
 | some b=>
  obtain⟨g,off,s⟩:=b;obtain rfl:s=none:=ha _ rfl;have d:(⟨g,off,none⟩:Addr).add 0=⟨g,off,none⟩:=rfl;simp[execOp,hop,hx,f,Instr.sliceAt,Instr.slice,run_underlying hu,In c,Instr.sliceBounds,Instr.sliceBound,asIntOf,hi,j,d]
theorem Rl {nm:List UInt8} {M:Nat}:∀ {l:List IY},(∀e∈l,e.2.length<=M)->(Dt nm l).1.length<=M
 | [],_=>Nat.zero_le _
 | e::tl,h=>by
  rw[Dt]
  cases decide (e.1=nm)
  ·exact Rl (l:=tl) λx hx=>h x (by simp[hx])
  exact h e (by simp)
def Hv (l:List IY) (nm:List UInt8) (n:Int):Int×Int×Int:=cond (cond (decide (n<1)) true (decide (120<n))) (0,0,2) (cond (!(Dt nm l).2) (0,0,16) (RV ((Dt nm l).1.take n.toNat)))
noncomputable def Zt:Code:=Tryz.f103.body.getD .skip
def re:=Ac 1 [.code Zt]
def bU:=Ω re
def ADT:=Θ bU
def ra:=Ξ bU
def T7:=Ψ ra
def ADS:=Θ T7
def rZ:=AB (Aq IV 90 (AG T7)) (AG T7)
def rY:=Ψ rZ
def ADR:=Ψ rY
theorem YP (A:Option Addr) (c:Nat) (l:List IY) (nm:List UInt8) (n:Int) (w:World) (h:Gn w A l) (hl:l.length<=4294967296) (hM:∀e∈l,e.2.length<=4294967296):Calls Tryz.prog 103 ([.slice A l.length c,.string ⟨⟨nm⟩⟩,J n]:List Value).toArray w λe w'=>e=.returned (CY (Hv l nm n))/\Below w.heap.size w w':=by
 refine AS (fn:=Tryz.f103) (c:=Zt) (n:=35) ?_;have K1:=Wk.start w;refine Bg 1 re [⟨w.heap.size,0,[J 0,J 0],47,true⟩] K1 [] λw1 z=>?_;refine Ap z [] [] z.G (λsp k=>by cases k) λw2 E2 K3=>?_;unfold Hv;refine AC bU K3 [] λw3 y=>?_;refine AH (cond (decide (n<1)) true (decide (120<n))) (λb=>?_) (λb=>?_)
 ·refine AC ADT y [(0,0)] λs d=>?_;exact AN d (0,0) (.tuple #[.agg ⟨[J 0,J 0]⟩,J 2]) ⟨by rw[b];rfl,d.B⟩
 have hn:1<=n/\n<=120:=by
  cases hd:decide (n<1)with
  | true=>rw[hd]at b;cases b
  | false=>
   rw[hd]at b;have h1:=of_decide_eq_false hd;have h2:¬ 120<n:=of_decide_eq_false b;omega
 rw[b];refine AC ra y [] λs d=>?_;refine BL (Rm A c l nm w s h hl d.B) λen w5 hh=>?_;obtain⟨q,g,rfl,hok,hx,b5⟩:=hh;have m:=Rl (nm:=nm) hM;generalize Dt nm l=r at *
 obtain⟨vs,ok⟩:=r;refine⟨_,rfl,?_⟩;have K6:=d.below b5;refine AC T7 K6 [] λw6 v=>?_;refine AH (!ok) (λo=>?_) (λo=>?_)
 ·refine AC ADS v [(0,0)] λw7 j=>?_;refine AN j (0,0) (.tuple #[.agg ⟨[J 0,J 0]⟩,J 16]) ⟨?_,j.B⟩;show _=Ending.returned (CY (cond false _ (cond (!ok) _ _)));rw[o];rfl
 refine Ao IV rZ v [] λw7 j=>?_;refine AX [(6,.pointer (some ⟨w.heap.size,0,none⟩)),(26,.slice q vs.length g),(30,J (if(vs.length:Int)<n then(vs.length:Int)else n))] λE8=>?_;have hm:(if(vs.length:Int)<n then(vs.length:Int)else n)=((vs.take n.toNat).length:Int):=by
  rw[length_take]
  split<;>omega
 have b0:(vs.take n.toNat).length<=vs.length:=by rw[length_take];omega
 have h0:vs.length<=g:=hok.1;have c0:vs.length<=4294967296:=m;rw[hm];refine EW (Lm (t:=45) (x:=.tmp 26) (h:=.tmp 30) (a:=q) (len:=vs.length) (cap:=g) (i:=(vs.take n.toNat).length) (by kernel_rfl) Tryz.underlying45 (by decide) (by kernel_rfl) (by kernel_rfl) (by omega) hok.2) ?_;refine AC rY j [] λw8 u=>?_;refine AW u (mY q g (vs.take n.toNat) w8 (Cn.below (Cn.take hx _) u.B) (by omega) (by omega)) λw9 p=>?_;refine Ar ADR p [(0,0)] λa0 f=>?_;refine AN f (0,0) (CY (RV (vs.take n.toNat))) ⟨?_,f.B⟩;show _=Ending.returned (CY (cond false _ (cond (!ok) _ _)));rw[o];rfl
def Mx (l:List IY) (nm:List UInt8) (n:Int):Int×Int×Int:=cond (cond (decide (n<1)) true (decide (120<n))) (0,0,2) (cond (cond (!(Dt nm l).2) true (decide (((Dt nm l).1.length:Int)<n))) (0,0,16) (cond (!(AV ((Dt nm l).1.getD (n.toNat-1) default).1 ((Dt nm l).1.getD (n.toNat-1) default).2)) (0,0,1) (((Dt nm l).1.getD (n.toNat-1) default).1,((Dt nm l).1.getD (n.toNat-1) default).2,0)))
noncomputable def Zs:Code:=Tryz.f104.body.getD .skip
def rX:=Ac 1 [.code Zs]
def bT:=Ω rX
def ADQ:=Θ bT
def rW:=Ξ bT
def rV:=Ac 4 (AD rW)
def T6:=Ω rV
def ADP:=Θ T6
def rU:=AB (Aq Aa 90 (AG T6)) (AG T6)
def rT:=ν (AD (AD rU))
def T5:=Ψ rT
def ya:=Θ T5
def ik:=AB (Aq Aa 90 (AG T5)) (AG T5)
def yZ:=ν (AD (AD ik))
theorem me (A:Option Addr) (c:Nat) (l:List IY) (nm:List UInt8) (n:Int) (w:World) (h:Gn w A l) (hl:l.length<=4294967296):Calls Tryz.prog 104 ([V A l.length c,Y nm,J n]:List Value).toArray w λe w'=>e=.returned (CY (Mx l nm n))/\Below (U w) w w':=by
 refine AS (fn:=Tryz.f104) (c:=Zs) (n:=45) ?_;have K1:=Wk.start w;refine Bg 1 rX [N (U w) [J 0,J 0] 47] K1 [] λw1 K2=>?_;refine Ap K2 [] [] K2.G (λsp d=>by cases d) λw2 E2 K3=>?_;unfold Mx;refine AC bT K3 [] λw3 K4=>?_;refine AH (cond (decide (n<1)) true (decide (120<n))) (λj=>?_) (λj=>?_)
 ·refine AC ADQ K4 [(0,0)] λw4 p=>?_;exact AN p (0,0) (.tuple #[D [J 0,J 0],J 2]) ⟨by rw[j];rfl,p.B⟩
 have hn:1<=n/\n<=120:=by
  cases hd:decide (n<1)with
  | true=>rw[hd]at j;cases j
  | false=>
   rw[hd]at j;have h1:=of_decide_eq_false hd;have h2:¬ 120<n:=of_decide_eq_false j;omega
 rw[j];refine AC rW K4 [] λw4 p=>?_;refine BL (Rm A c l nm w w4 h hl p.B) λen w5 hh=>?_;obtain⟨A',o,rfl,hok,hx,b5⟩:=hh;generalize Dt nm l=r at *
 obtain⟨vs,ok⟩:=r;refine⟨_,rfl,?_⟩;have K6:=p.below b5;refine Al 4 rV K6 [] λw6 K7=>?_;refine Ap K7 [] [] K7.G (λsp d=>by cases d) λw7 E7 K8=>?_;refine AC T6 K8 [] λw8 K9=>?_;refine AH (cond (!ok) true (decide ((vs.length:Int)<n))) (λm=>?_) (λm=>?_)
 ·refine AC ADP K9 [(0,0)] λw9 b=>?_;refine AN b (0,0) (.tuple #[D [J 0,J 0],J 16]) ⟨?_,b.B⟩;show _=Ending.returned (CY (cond false _ (cond (cond (!ok) true (decide ((vs.length:Int)<n))) _ _)));rw[m];rfl
 have i:n.toNat-1<vs.length:=by
  cases ok with
  | false=>cases m
  | true=>
   have h2:¬(vs.length:Int)<n:=of_decide_eq_false m;omega
 obtain⟨v,hv⟩:∃v,vs[n.toNat-1]?=some v:=⟨_,getElem?_eq_getElem i⟩;have z:vs.getD (n.toNat-1) default=v:=by rw[getD_eq_getElem?_getD,hv];rfl
 have hS:∀(x y:Int×Int×Int),cond false x (cond (cond (!((vs,ok):List (Int×Int)×Bool).2) true (decide ((((vs,ok):List (Int×Int)×Bool).1.length:Int)<n))) y (cond (!(AV (((vs,ok):List (Int×Int)×Bool).1.getD (n.toNat-1) default).1 (((vs,ok):List (Int×Int)×Bool).1.getD (n.toNat-1) default).2)) (0,0,1) ((((vs,ok):List (Int×Int)×Bool).1.getD (n.toNat-1) default).1,(((vs,ok):List (Int×Int)×Bool).1.getD (n.toNat-1) default).2,0)))=cond (!(AV v.1 v.2)) (0,0,1) (v.1,v.2,0):=λx y=>by show cond (cond (!ok) true (decide ((vs.length:Int)<n))) y (cond (!(AV (vs.getD (n.toNat-1) default).1 (vs.getD (n.toNat-1) default).2)) (0,0,1) ((vs.getD (n.toNat-1) default).1,(vs.getD (n.toNat-1) default).2,0))=_;rw[m,z];rfl
 rw[hS];obtain⟨g,f,rfl,hg,ha⟩:=hx.all (by show 0<vs.length;omega);have hr:=ha _ v hv;have he:IntKind.i64.wrap (n-1)=((n.toNat-1:Nat):Int):=by rw[IntWalk.i64_in _ (by omega)];omega
 refine Ao Aa rU K9 [] λw9 b=>?_;refine AX [(2,J n),(6,Z (U w)),(8,V (some ⟨g,f,none⟩) vs.length o),(32,V (some ⟨g,f,none⟩) vs.length o),(34,J (IntKind.i64.wrap (n-1)))] λh0=>?_;rw[he];refine Aw (g:=g) (off:=f) (cap:=o) (sz:=2) (k:=n.toNat-1) (len:=vs.length) (some 35) i Tryz.underlying45 ?_;refine Bd 47 g (f+(n.toNat-1)*2) (BD v) (some 36) (Aj hr hg b.B) ?_;refine AC rT b [] λu b0=>?_;refine AW b0 (args:=[D [J v.1,J v.2]]) (Bw v.1 v.2 u) λe0 a0=>?_;refine AC T5 a0 [] λd0 s=>?_;refine AH (!(AV v.1 v.2)) (λc3=>?_) (λc3=>?_)
 ·refine AC ya s [(0,0)] λt a=>?_;exact AN a (0,0) (.tuple #[D [J 0,J 0],J 1]) ⟨by rw[c3];rfl,a.B⟩
 rw[c3];refine Ao Aa ik s [] λt a=>?_;refine AX [(6,Z (U w)),(40,V (some ⟨g,f,none⟩) vs.length o),(42,J (IntKind.i64.wrap (n-1)))] λg0=>?_;rw[he];refine Aw (g:=g) (off:=f) (cap:=o) (sz:=2) (k:=n.toNat-1) (len:=vs.length) (some 43) i Tryz.underlying45 ?_;refine Bd 47 g (f+(n.toNat-1)*2) (BD v) (some 44) (Aj hr hg a.B) ?_;refine Ar yZ a [(0,0)] λc0 q=>?_;exact AN q (0,0) (.tuple #[D (BD v),J 0]) ⟨rfl,q.B⟩
abbrev NU:=Int×Int×Int
def Sj (e:NU):Bool:=cond (cond (!(AV e.2.1 e.2.2)) true (decide (e.1 < -1000000000000))) true (decide (1000000000000<e.1))
def ID (all:List NU) (kn kd:Int):List NU->Nat->Int->Int
 | [],_,b=>b
 | e::tl,i,b=>ID all kn kd tl (i+1) (cond (cond (decide (Ev e.1 1 kn kd<=0)) (cond (decide (b<0)) true (decide ((all.getD b.toNat default).1<e.1))) false) (i:Int) b)
theorem gS {all l:List NU} {a c b:Int} (i:Nat) (e:NU) (hi:l[i]?=some e):ID all a c (l.drop i) i b=ID all a c (l.drop (i+1)) (i+1) (cond (cond (decide (Ev e.1 1 a c<=0)) (cond (decide (b<0)) true (decide ((all.getD b.toNat default).1<e.1))) false) (i:Int) b):=by have hl:i<l.length:=(List.getElem?_eq_some_iff.1 hi).1;have he:l[i]=e:=(List.getElem?_eq_some_iff.1 hi).2;rw[<-getElem_cons_drop hl,ID,he]
def Ob (es:List NU) (b:Int):Int×Int×Int:=cond (decide (b<0)) (0,0,16) ((es.getD b.toNat default).2.1,(es.getD b.toNat default).2.2,0)
def Ix (es:List NU) (kn kd:Int):Int×Int×Int:=cond (decide (64<(es.length:Int))) (0,0,3) (cond (!(AV kn kd)) (0,0,1) (cond (es.any Sj) (0,0,1) (Ob es (ID es kn kd es 0 (-1)))))
noncomputable def Zp:Code:=Tryz.f105.body.getD .skip
def bR:=ν [.code Zp]
def ADL:=Θ bR
def rP:=Ξ bR
def bQ:=Ψ rP
def ADK:=Θ bQ
def bP:=Ξ bQ
def T3:=ν (Au bP)
def rO:=AB (Aq Aa 90 (AE T3)) (AE T3)
def rN:=Ac 8 (AD (AD rO))
def rM:=Ω rN
def yY:=Θ rM
def QM:=Ξ T3
def QL:=ν (Au QM)
def ij:=AB (Aq Aa 90 (AE QL)) (AE QL)
def U1:=Ac 15 (AD (AD ij))
def yX:=Ω U1
def QK:=Ξ QL
def yW:=Θ QK
def U0:=AB (Aq Aa 90 (AG QK)) (AG QK)
def ii:=AB (Aq (Oc 47) 90 (AD U0)) (AD U0)
def yV:=Ψ ii
theorem Ys (A:Option Addr) (c:Nat) (es:List NU) (a d:Int) (w:World) (h:Dl w A es) (hl:es.length<=4294967296):Calls Tryz.prog 105 ([V A es.length c,D [J a,J d]]:List Value).toArray w λe w'=>e=.returned (CY (Ix es a d))/\Below (U w) w w':=by
 refine AS (fn:=Tryz.f105) (c:=Zp) (n:=78) ?_;have K1:=Wk.start w;refine An bR [N (U w) [J a,J d] 47,N (U w+1) [J 0,J 0] 47] K1 [] λw1 K2=>?_;unfold Ix;refine AH (decide (64<(es.length:Int))) (λc1=>?_) (λc1=>?_)
 ·refine AC ADL K2 [(1,0)] λw2 K3=>?_;exact AN K3 (1,0) (.tuple #[D [J 0,J 0],J 3]) ⟨by rw[c1];rfl,K3.B⟩
 rw[c1];refine AC rP K2 [(0,0)] λw2 K3=>?_;refine AW K3 (args:=[D [J a,J d]]) (Bw a d w2) λw3 K4=>?_;refine AC bQ K4 [] λw4 K5=>?_;refine AH (!(AV a d)) (λc2=>?_) (λc2=>?_)
 ·refine AC ADK K5 [(1,0)] λw5 o=>?_;exact AN o (1,0) (.tuple #[D [J 0,J 0],J 1]) ⟨by rw[c2];rfl,o.B⟩
 rw[c2];refine AC bP K5 [] λw5 o=>?_;refine AX [(0,V A es.length c),(3,Z (U w)),(4,Z (U w+1)),(19,V A es.length c),(20,J (es.length:Int)),(21,J ((0:Nat):Int))] λE6=>?_;refine Bp (by kernel_rfl) (λE wx=>∃(i:Nat) (E0:Nat->Value),i<=es.length/\E=BN E0 [(0,V A es.length c),(3,Z (U w)),(4,Z (U w+1)),(19,V A es.length c),(20,J (es.length:Int)),(21,J (i:Int))]/\(∀(k:Nat) (e:NU),k<i->es[k]?=some e->Sj e=false)/\Wk w wx [N (U w) [J a,J d] 47,N (U w+1) [J 0,J 0] 47] [] []) (λE _=>es.length-AP (E 21)) ⟨0,E6,Nat.zero_le _,rfl,λk e hk=>absurd hk (Nat.not_lt_zero _),o⟩ ?_;clear K2 K3 K4 K5 o;rintro E wx ⟨i,E0,hi,rfl,hv,K3⟩ j;refine AC T3 K3 [] λw4 K4=>?_;refine AH (decide ((i:Int)<(es.length:Int))) (λc5=>?_) (λc5=>?_)
 ·have l:i<es.length:=by have:=of_decide_eq_true c5;omega
  obtain⟨e,he⟩:∃e,es[i]?=some e:=⟨_,getElem?_eq_getElem l⟩;obtain⟨g,f,rfl,hg,ha⟩:=h.all (by omega);have hr:=ha i _ he;refine Ao Aa rO K4 [] λw6 o=>?_;refine Aw (g:=g) (off:=f) (cap:=c) (sz:=3) (k:=i) (len:=es.length) (some 23) l Tryz.underlying67 ?_;refine Bd 107 g (f+i*3) (IR e) (some 24) (Aj hr hg o.B) ?_;refine Bg 8 rN [N (U w) [J a,J d] 47,N (U w+1) [J 0,J 0] 47,N (U w6) (IR e) 107] o [(2,0)] λw7 q=>?_;refine Ap q [(1,2,1),(6,2,0),(11,2,0)] [⟨2,[(26,D [J e.2.1,J e.2.2])],I (AV e.2.1 e.2.2),true⟩] q.G (λsp p=>?_) λw8 E8 z=>?_
  ·rw[mem_singleton.1 p];exact AU 36 [.tmp 26] _ (λ_=>by kernel_rfl) λhc u hu=>AR hu (Bw e.2.1 e.2.2 u)
  refine AC rM z [] λw9 K9=>?_;refine AH (cond (cond (!(AV e.2.1 e.2.2)) true (decide (e.1 < -1000000000000))) true (decide (1000000000000<e.1))) (λr=>?_) (λr=>?_)
  ·refine AC yY K9 [(1,0)] λa0 m=>?_;have d0:es.any Sj=true:=any_eq_true.2 ⟨e,mem_of_getElem? he,r⟩;exact AN m (1,0) (.tuple #[D [J 0,J 0],J 1]) ⟨by rw[d0];rfl,m.B⟩
  refine AC (Ab bP) K9 [] λa0 m=>?_;refine AX [(0,V (some ⟨g,f,none⟩) es.length c),(3,Z (U w)),(4,Z (U w+1)),(19,V (some ⟨g,f,none⟩) es.length c),(20,J (es.length:Int)),(21,J (IntKind.i64.wrap ((i:Int)+1)))] λy=>?_;rw[Bs i (by omega)];refine j _ _ ⟨i+1,y,l,rfl,λk x hk hx=>?_,m.pk [0,1] []⟩ ?_
  ·by_cases hki:k=i
   ·subst hki;obtain rfl:=Option.some.inj (he.symm.trans hx);exact r
   exact hv k x (by omega) hx
  show es.length-AP (J ((i+1:Nat):Int))<es.length-AP (J (i:Int));simp only[AP];omega
 have c0:i=es.length:=by have:=of_decide_eq_false c5;omega
 have d0:es.any Sj=false:=by rw[any_eq_false];intro e he;obtain⟨k,hk⟩:=mem_iff_getElem?.1 he;rw[hv k e (by have:=(List.getElem?_eq_some_iff.1 hk).1;omega) hk];decide
 rw[d0];clear j hv c1 c2;refine AC QM K4 [] λw5 K5=>?_;refine AX [(0,V A es.length c),(3,Z (U w)),(4,Z (U w+1)),(8,J (-1)),(41,V A es.length c),(42,J (es.length:Int)),(43,J ((0:Nat):Int))] λE5=>?_;refine Bp (by kernel_rfl) (λE wx=>∃(i:Nat) (b:Int) (E0:Nat->Value),i<=es.length/\E=BN E0 [(0,V A es.length c),(3,Z (U w)),(4,Z (U w+1)),(8,J b),(41,V A es.length c),(42,J (es.length:Int)),(43,J (i:Int))]/\(b=-1\/∃k:Nat,k<i/\b=(k:Int))/\ID es a d es 0 (-1)=ID es a d (es.drop i) i b/\Wk w wx [N (U w) [J a,J d] 47,N (U w+1) [J 0,J 0] 47] [] []) (λE _=>es.length-AP (E 43)) ⟨0,-1,E5,Nat.zero_le _,rfl,.inl rfl,rfl,K5⟩ ?_;clear K3 K4 K5 c0 hi c5;rintro E wx ⟨i,b,E0,hi,rfl,hb,hv,K3⟩ j;refine AC QL K3 [] λw4 K4=>?_;refine AH (decide ((i:Int)<(es.length:Int))) (λc5=>?_) (λc5=>?_)
 ·have l:i<es.length:=by have:=of_decide_eq_true c5;omega
  obtain⟨e,he⟩:∃e,es[i]?=some e:=⟨_,getElem?_eq_getElem l⟩;rw[gS i e he]at hv;obtain⟨g,f,rfl,hg,ha⟩:=h.all (by omega);have hr:=ha i _ he;refine Ao Aa ij K4 [] λw6 o=>?_;refine Aw (g:=g) (off:=f) (cap:=c) (sz:=3) (k:=i) (len:=es.length) (some 46) l Tryz.underlying67 ?_;refine Bd 107 g (f+i*3) (IR e) (some 47) (Aj hr hg o.B) ?_;refine Bg 15 U1 [N (U w) [J a,J d] 47,N (U w+1) [J 0,J 0] 47,N (U w6) (IR e) 107] o [(2,0)] λw7 q=>?_;have fin:∀(t:Bool) (E8:Nat->Value) (w8:World),Wk w w8 [N (U w) [J a,J d] 47,N (U w+1) [J 0,J 0] 47,N (U w6) (IR e) 107] [] []->cond (decide (Ev e.1 1 a d<=0)) (cond (decide (b<0)) true (decide ((es.getD b.toNat default).1<e.1))) false=t->At Tryz.prog 105 (λe w'=>e=.returned (CY (cond false (0,0,3) (cond false (0,0,1) (cond false (0,0,1) (Ob es (ID es a d es 0 (-1)))))))/\Below (U w) w w') (AO U1) (Fr 78 (BN E8 [(0,V (some ⟨g,f,none⟩) es.length c),(3,Z (U w)),(4,Z (U w+1)),(8,J b),(9,J (i:Int)),(41,V (some ⟨g,f,none⟩) es.length c),(42,J (es.length:Int)),(43,J (i:Int)),(67,I t)])) w8:=by
   intro t E8 w8 z ht;rw[ht]at hv;refine AC yX z [] λw9 K9=>?_;refine AH t (λr=>?_) (λr=>?_)<;>rw[r]at hv
   ·refine AC (Ab QM) K9 [] λa0 m=>?_;refine AX [(0,V (some ⟨g,f,none⟩) es.length c),(3,Z (U w)),(4,Z (U w+1)),(8,J (i:Int)),(41,V (some ⟨g,f,none⟩) es.length c),(42,J (es.length:Int)),(43,J (IntKind.i64.wrap ((i:Int)+1)))] λy=>?_;rw[Bs i (by omega)];refine j _ _ ⟨i+1,(i:Int),y,l,rfl,.inr ⟨i,Nat.lt_succ_self _,rfl⟩,hv,m.pk [0,1] []⟩ ?_;show es.length-AP (J ((i+1:Nat):Int))<es.length-AP (J (i:Int));simp only[AP];omega
   refine AC (Ab QM) K9 [] λa0 m=>?_;refine AX [(0,V (some ⟨g,f,none⟩) es.length c),(3,Z (U w)),(4,Z (U w+1)),(8,J b),(41,V (some ⟨g,f,none⟩) es.length c),(42,J (es.length:Int)),(43,J (IntKind.i64.wrap ((i:Int)+1)))] λy=>?_;rw[Bs i (by omega)];refine j _ _ ⟨i+1,b,y,l,rfl,by rcases hb with hb | ⟨k,hk,hb⟩;exact .inl hb;exact .inr ⟨k,by omega,hb⟩,hv,m.pk [0,1] []⟩ ?_;show es.length-AP (J ((i+1:Nat):Int))<es.length-AP (J (i:Int));simp only[AP];omega
  rcases hb with rfl | ⟨k,hk,rfl⟩
  ·refine Ap q [(1,2,0),(3,0,0),(11,2,0),(16,2,0)] [⟨2,[(49,J e.1)],D [J e.1,J 1],true⟩,⟨4,[(50,D [J e.1,J 1]),(51,D [J a,J d])],J (Ev e.1 1 a d),true⟩,⟨14,[(60,V (some ⟨g,f,none⟩) es.length c),(61,J (-1))],Z (U w6),(!(decide ((-1:Int)<0)))&&((decide (Ev e.1 1 a d<=0))&&true)⟩] q.G (λsp p=>?_) λw8 E8 z=>?_
   ·simp only[mem_cons,not_mem_nil,or_false]at p;rcases p with rfl | rfl | rfl
    ·exact AU 126 [.tmp 49] _ (λ_=>by kernel_rfl) λhc u hu=>AR hu (Lv e.1 u)
    ·exact AU 125 [.tmp 50,.tmp 51] _ (λ_=>by kernel_rfl) λhc u hu=>AR hu (P7 e.1 1 a d u)
    exact BR λhc E u _=>by cases hc
   refine AX [(0,V (some ⟨g,f,none⟩) es.length c),(3,Z (U w)),(4,Z (U w+1)),(8,J (-1)),(9,J (i:Int)),(41,V (some ⟨g,f,none⟩) es.length c),(42,J (es.length:Int)),(43,J (i:Int)),(67,I (cond (decide (Ev e.1 1 a d<=0)) (cond (decide ((-1:Int)<0)) true (decide (e.1<e.1))) false))] λE9=>?_;exact fin _ E9 w8 z rfl
  obtain⟨v,s⟩:∃e,es[k]?=some e:=⟨_,getElem?_eq_getElem (by omega)⟩;have b0:es.getD k default=v:=by rw[getD_eq_getElem?_getD,s];rfl
  refine Ap q (mem:=[N (U w) [J a,J d] 47,N (U w+1) [J 0,J 0] 47,N (U w6) (IR e) 107,⟨g,f+k*3,IR v,107,false⟩]) [(1,2,0),(3,0,0),(11,2,0),(16,3,0)] [⟨2,[(49,J e.1)],D [J e.1,J 1],true⟩,⟨4,[(50,D [J e.1,J 1]),(51,D [J a,J d])],J (Ev e.1 1 a d),true⟩,⟨14,[(60,V (some ⟨g,f,none⟩) es.length c),(61,J (k:Int))],.pointer (some ⟨g,f+k*3,none⟩),(!(decide ((k:Int)<0)))&&((decide (Ev e.1 1 a d<=0))&&true)⟩] (λx hx=>?_) (λsp p=>?_) λw8 E8 z=>?_
  ·simp only[mem_cons,not_mem_nil,or_false]at hx;rcases hx with rfl | rfl | rfl | rfl
   ·exact q.ent 0 rfl
   ·exact q.ent 1 rfl
   ·exact q.ent 2 rfl
   exact⟨Nat.lt_of_lt_of_le hg q.B.size,Aj (ha k v s) hg q.B⟩
  ·simp only[mem_cons,not_mem_nil,or_false]at p;rcases p with rfl | rfl | rfl
   ·exact AU 126 [.tmp 49] _ (λ_=>by kernel_rfl) λhc u hu=>AR hu (Lv e.1 u)
   ·exact AU 125 [.tmp 50,.tmp 51] _ (λ_=>by kernel_rfl) λhc u hu=>AR hu (P7 e.1 1 a d u)
   exact BR λ_ E u _=>BJ (sz:=3) (cap:=c) (len:=es.length) (k:=k) 67 (.tmp 60) (.tmp 61) (by omega) Tryz.underlying67
  refine AX [(0,V (some ⟨g,f,none⟩) es.length c),(3,Z (U w)),(4,Z (U w+1)),(8,J (k:Int)),(9,J (i:Int)),(41,V (some ⟨g,f,none⟩) es.length c),(42,J (es.length:Int)),(43,J (i:Int)),(67,I (cond (decide (Ev e.1 1 a d<=0)) (cond (decide ((k:Int)<0)) true (decide (v.1<e.1))) false))] λE9=>?_;refine fin _ E9 w8 z ?_;rw[Int.toNat_natCast,b0]
 have c0:i=es.length:=by have:=of_decide_eq_false c5;omega
 rw[c0,drop_length,ID]at hv;rw[hv];refine AC QK K4 [] λw5 K5=>?_;refine AH (decide (b<0)) (λc6=>?_) (λc6=>?_)
 ·refine AC yW K5 [(1,0)] λw6 o=>?_;refine AN o (1,0) (.tuple #[D [J 0,J 0],J 16]) ⟨?_,o.B⟩;unfold Ob;rw[c6];rfl
 rcases hb with rfl | ⟨k,hk,rfl⟩
 ·cases c6
 obtain⟨v,s⟩:∃e,es[k]?=some e:=⟨_,getElem?_eq_getElem (by omega)⟩;have b0:es.getD k default=v:=by rw[getD_eq_getElem?_getD,s];rfl
 obtain⟨g,f,rfl,hg,ha⟩:=h.all (by omega);refine Ao Aa U0 K5 [] λw6 o=>?_;refine Aw (g:=g) (off:=f) (cap:=c) (sz:=3) (k:=k) (len:=es.length) (some 75) (by omega) Tryz.underlying67 ?_;refine Ao (Oc 47) ii o [] λw7 q=>?_;refine Bd 47 g (f+k*3+1) _ (some 77) (KO (Aj (ha k v s) hg q.B) 1 [J v.2.1,J v.2.2] rfl) ?_;refine Ar yV q [(1,0)] λw8 z=>?_;refine AN z (1,0) (.tuple #[D [J v.2.1,J v.2.2],J 0]) ⟨?_,z.B⟩;unfold Ob;rw[c6,Int.toNat_natCast,b0];rfl
abbrev Γ (d:Df) (ns:List Df):Int:=AK (λx=>AF x d) ns
abbrev Δ (d:Df) (ns:List Df):Df:=ns.getD (Γ d ns).toNat default
theorem MI {F:Df->Bool}:∀(es:List Df) (i:Nat) (a:Int),C1 F es i a<(i+es.length:Nat)/\(C1 F es i a=-1\/0<=C1 F es i a)
 | [],i,a=>by rw[C1];exact⟨by omega,.inl rfl⟩
 | e::es,i,a=>by
  rw[C1,length_cons]
  cases F e
  ·show C1 F es (i+1) a<_/\_;have:=MI (F:=F) es (i+1) a;exact⟨by have:=this.1;omega,this.2⟩
  exact⟨by show(i:Int)<_;omega,.inr (by show(0:Int)<=i;omega)⟩
theorem Yx {F:Df->Bool} {ds:List Df} (h:decide (AK F ds<0)=false):AK F ds=((AK F ds).toNat:Int)/\(AK F ds).toNat<ds.length:=by have b:=of_decide_eq_false h;have h2:=(MI (F:=F) ds 0 0).1;have a:AK F ds<(0+ds.length:Nat):=h2;omega
theorem Ru (F:Df->Bool) (a:Option Addr) (ds:List (Df)) {m:Nat} (c:Nat) (g:FuncId) (cap:List Value) (w:World) (d:rowsDf w a ds) (hm:ds.length=m) (b:ds.length<=4294967296) (hg:Dr Tryz.prog g=true) (i:∀u,Below (U w) w u->∀(e:Df) (h:Option Addr) (l:Nat) (f:Option Addr) (k:Nat),Dl u h e.ents->rowsEx u f e.body.ks->Calls Tryz.prog g (D (CL e h l f k)::cap).toArray u λj w'=>j=.returned (I (F e))/\Below (U u) u w'):Calls Tryz.prog 48 ([V a m c,.func (.func g) #[] ⟨cap⟩]:List Value).toArray w λe w'=>e=.returned (I (Ei F ds))/\Below (U w) w w':=by subst hm;exact SW F a ds c g cap w d b hg i
def C8 (d:Df) (ns:List (Df)):Int:=cond (decide (Γ d ns<0)) (0) (Gu ((Am ((Δ d ns).kind) ((Δ d ns).tb) ((Δ d ns).tm) ((Δ d ns).th) ((Δ d ns).td)).1) ((Am ((Δ d ns).kind) ((Δ d ns).tb) ((Δ d ns).tm) ((Δ d ns).th) ((Δ d ns).td)).2.1) ((Am ((Δ d ns).kind) ((Δ d ns).tb) ((Δ d ns).tm) ((Δ d ns).th) ((Δ d ns).td)).2.2.1) ((Am ((Δ d ns).kind) ((Δ d ns).tb) ((Δ d ns).tm) ((Δ d ns).th) ((Δ d ns).td)).2.2.2) d.tb d.tm d.th d.td)
noncomputable def ap:Code:=Tryz.f51.body.getD .skip
def vr:=ν ([.code ap])
def fb:=Ψ vr
def AFz:=Θ fb
def vq:=Ac 4 (AG fb)
def AFy:=Ω vq
theorem Tt (d:Df) (b:Option Addr) (k:Nat) (a:Option Addr) (j:Nat) (r:Option Addr) (ns:List (Df)) (l:Nat) (w:World) (a0:Dl w b d.ents) (z:rowsEx w a d.body.ks) (p:rowsDf w r ns) (c0:ns.length<=4294967296):Calls Tryz.prog 51 ([D ((ψ d b k a j)),V r ns.length l]:List Value).toArray w λe w'=>e=.returned (J ((C8 d ns)))/\Below (U w) w w':=by
 refine AS (fn:=Tryz.f51) (c:=ap) (n:=19) ?_;have K1:=Wk.start w;refine An vr [N (U w) ((CL d b k a j)) 72] K1 [] λw1 o=>?_;refine AW o (args:=[V r ns.length l,.func (.func 84) #[] ⟨[Z (U w)]⟩]) (PH (λx=>AF x d) _ ns _ 84 [Z (U w)] w1 (p.below o.B) (by first | assumption | omega) (by kernel_rfl) (λu2 b2 x A1 c1 A2 c2 g1 g2=>R2 x A1 c1 A2 c2 (U w) d _ _ _ _ u2 g1 g2 (Nat.lt_of_lt_of_le (o.ent (e:=(N (U w) ((CL d b k a j)) 72)) 0 (by kernel_rfl)).1 b2.size) (Aj (Ka (o.ent (e:=(N (U w) ((CL d b k a j)) 72)) 0 (by kernel_rfl))) (o.ent (e:=(N (U w) ((CL d b k a j)) 72)) 0 (by kernel_rfl)).1 b2) (a0.below (o.B.trans (b2.mono o.B.size))) (z.below (o.B.trans (b2.mono o.B.size))))) λw2 K3=>?_;refine AC fb K3 [] λw3 K4=>?_;refine AH (decide (Γ d ns<0)) (λc4=>?_) (λc4=>?_)
 ·refine AC AFz K4 [] λw5 K5=>?_;have hS:(C8 d ns)=0:=by unfold C8;rw[c4]<;>rfl
  exact AN K5 (0,0) (J 0) ⟨by rw[hS]<;>rfl,K5.B⟩
 have m:=Yx c4;rw[m.1];refine Al 4 vq K4 [] λw6 K6=>?_;obtain⟨s,t,rfl,q,b0⟩:=p.all (Nat.lt_of_le_of_lt (Nat.zero_le _) m.2);have d0:ns[(Γ d ns).toNat]?=some (Δ d ns):=getD_some default m.2;obtain⟨i,g,h,f,y,g0,e0⟩:=b0 (Γ d ns).toNat _ d0;refine Ap K6 [(3,1,0),(6,0,2)] [⟨2,[(11,V (some ⟨s,t,none⟩) ns.length l),(12,J (((Γ d ns).toNat:Int)))],.pointer (some ⟨s,t+(Γ d ns).toNat*21,none⟩),true⟩,⟨4,[(14,D ((ψ (Δ d ns) i g h f)))],Ed (Am ((Δ d ns).kind) ((Δ d ns).tb) ((Δ d ns).tm) ((Δ d ns).th) ((Δ d ns).td)),true⟩,⟨7,[(15,Ed (Am ((Δ d ns).kind) ((Δ d ns).tb) ((Δ d ns).tm) ((Δ d ns).th) ((Δ d ns).td))),(17,D [I (d.tb),J d.tm,J d.th,J d.td])],J (Gu ((Am ((Δ d ns).kind) ((Δ d ns).tb) ((Δ d ns).tm) ((Δ d ns).th) ((Δ d ns).td)).1) ((Am ((Δ d ns).kind) ((Δ d ns).tb) ((Δ d ns).tm) ((Δ d ns).th) ((Δ d ns).td)).2.1) ((Am ((Δ d ns).kind) ((Δ d ns).tb) ((Δ d ns).tm) ((Δ d ns).th) ((Δ d ns).td)).2.2.1) ((Am ((Δ d ns).kind) ((Δ d ns).tb) ((Δ d ns).tm) ((Δ d ns).th) ((Δ d ns).td)).2.2.2) d.tb d.tm d.th d.td),true⟩] (II (x:=⟨s,t+(Γ d ns).toNat*21,ψ (Δ d ns) i g h f,72,false⟩) K6.G ⟨Nat.lt_of_lt_of_le q K6.B.size,Aj y q K6.B⟩) (λsp v=>?_) λw7 E7 K7=>?_
 ·simp only[mem_cons,not_mem_nil,or_false]at v;rcases v with rfl | rfl | rfl
  ·exact BR λ_ E u _=>BJ (sz:=21) (cap:=l) 25 (.tmp 11) (.tmp 12) m.2 Tryz.underlying25
  ·exact AU 83 [.tmp 14] [D ((ψ (Δ d ns) i g h f))] (λ_=>by kernel_rfl) λhc u hu=>AR hu (Jm ((Δ d ns).kind) ((Δ d ns).name) ((Δ d ns).tb) ((Δ d ns).tm) ((Δ d ns).th) ((Δ d ns).td) ((Δ d ns).frm) i ((Δ d ns).ents.length) g ((Δ d ns).body.op) ((Δ d ns).body.num) ((Δ d ns).body.den) ((Δ d ns).body.mu) ((Δ d ns).body.hu) ((Δ d ns).body.du) ((Δ d ns).body.nm) ((Δ d ns).body.cnt) ((Δ d ns).body.md) h ((Δ d ns).body.ks.length) f ((Δ d ns).mode) ((Δ d ns).num) ((Δ d ns).den) u)
  exact AU 85 [.tmp 15,.tmp 17] [Ed (Am ((Δ d ns).kind) ((Δ d ns).tb) ((Δ d ns).tm) ((Δ d ns).th) ((Δ d ns).td)),D [I (d.tb),J d.tm,J d.th,J d.td]] (λ_=>by kernel_rfl) λhc u hu=>AR hu (TZ ((Am ((Δ d ns).kind) ((Δ d ns).tb) ((Δ d ns).tm) ((Δ d ns).th) ((Δ d ns).td)).1) ((Am ((Δ d ns).kind) ((Δ d ns).tb) ((Δ d ns).tm) ((Δ d ns).th) ((Δ d ns).td)).2.1) ((Am ((Δ d ns).kind) ((Δ d ns).tb) ((Δ d ns).tm) ((Δ d ns).th) ((Δ d ns).td)).2.2.1) ((Am ((Δ d ns).kind) ((Δ d ns).tb) ((Δ d ns).tm) ((Δ d ns).th) ((Δ d ns).td)).2.2.2) d.tb d.tm d.th d.td u)
 refine AC AFy K7 [] λw8 K8=>?_;have hS:(C8 d ns)=Gu ((Am ((Δ d ns).kind) ((Δ d ns).tb) ((Δ d ns).tm) ((Δ d ns).th) ((Δ d ns).td)).1) ((Am ((Δ d ns).kind) ((Δ d ns).tb) ((Δ d ns).tm) ((Δ d ns).th) ((Δ d ns).td)).2.1) ((Am ((Δ d ns).kind) ((Δ d ns).tb) ((Δ d ns).tm) ((Δ d ns).th) ((Δ d ns).td)).2.2.1) ((Am ((Δ d ns).kind) ((Δ d ns).tb) ((Δ d ns).tm) ((Δ d ns).th) ((Δ d ns).td)).2.2.2) d.tb d.tm d.th d.td:=by unfold C8;rw[c4]<;>rfl
 exact AN K8 (0,0) (J (Gu ((Am ((Δ d ns).kind) ((Δ d ns).tb) ((Δ d ns).tm) ((Δ d ns).th) ((Δ d ns).td)).1) ((Am ((Δ d ns).kind) ((Δ d ns).tb) ((Δ d ns).tm) ((Δ d ns).th) ((Δ d ns).td)).2.1) ((Am ((Δ d ns).kind) ((Δ d ns).tb) ((Δ d ns).tm) ((Δ d ns).th) ((Δ d ns).td)).2.2.1) ((Am ((Δ d ns).kind) ((Δ d ns).tb) ((Δ d ns).tm) ((Δ d ns).th) ((Δ d ns).td)).2.2.2) d.tb d.tm d.th d.td)) ⟨by rw[hS]<;>rfl,K8.B⟩
theorem HO:∀(es a b c:List Df),(CR es a b c).1.length<=a.length+es.length/\(CR es a b c).2.1.length<=b.length+es.length/\(CR es a b c).2.2.length<=c.length+es.length
 | [],a,b,c=>by rw[CR];exact⟨Nat.le_refl _,Nat.le_refl _,Nat.le_refl _⟩
 | e::es,a,b,c=>by
  have g:=HO es a b c;have f:=HO es (a++[e]) b c;have h2:=HO es a (b++[e]) c;have d:=HO es a b (c++[e]);simp only[length_append,length_singleton]at f h2 d;rw[CR,length_cons]
  cases e.kind==1<;>cases e.kind==3<;>cases e.kind==4<;>cases e.kind==2<;>cases e.kind==5<;>simp only[cond_true,cond_false]<;>omega
theorem Y2 (ds:List Df):(AZ ds).1.length<=ds.length/\(AZ ds).2.1.length<=ds.length/\(AZ ds).2.2.length<=ds.length:=by have:=HO ds [] [] [];simpa[AZ]using this
def C4 (ds:List (Df)):List (Df)->Nat->List (Int×Int)->List (Int×Int)×Int
 | [],i0,a0_0=>(a0_0,0)
 | e0::tl,i0,a0_0=>cond (Ei (λx=>Hu x e0) (ds.take i0)) (C4 ds tl (i0+1) (a0_0++[((i0:Int),8)])) (cond (e0.kind==5) (cond (!((C8 e0 (((AZ ds)).1))==0)) (C4 ds tl (i0+1) (a0_0++[((i0:Int),(C8 e0 (((AZ ds)).1)))])) (C4 ds tl (i0+1) a0_0)) (cond (cond (e0.kind==3) (true) (e0.kind==4)) (cond (!(DX e0 (((AZ ds)).1) (((AZ ds)).2.1) (((AZ ds)).2.2)==0)) (C4 ds tl (i0+1) (a0_0++[((i0:Int),DX e0 (((AZ ds)).1) (((AZ ds)).2.1) (((AZ ds)).2.2))])) (C4 ds tl (i0+1) a0_0)) (C4 ds tl (i0+1) a0_0)))
theorem Tu {ds:List (Df)} {b:Nat} {a:List (Int×Int)}:C4 ds [] b a=((a,0)):=by rw[C4]
theorem Sh {ds:List (Df)} {a:List (Int×Int)} {es:List (Df)} (b:Nat) (c:Df) (hi:es[b]?=some c):C4 ds (es.drop b) b a=(cond (Ei (λx=>Hu x c) (ds.take b)) (C4 ds (es.drop (b+1)) (b+1) (a++[((b:Int),8)])) (cond (c.kind==5) (cond (!((C8 c (((AZ ds)).1))==0)) (C4 ds (es.drop (b+1)) (b+1) (a++[((b:Int),(C8 c (((AZ ds)).1)))])) (C4 ds (es.drop (b+1)) (b+1) a)) (cond (cond (c.kind==3) (true) (c.kind==4)) (cond (!(DX c (((AZ ds)).1) (((AZ ds)).2.1) (((AZ ds)).2.2)==0)) (C4 ds (es.drop (b+1)) (b+1) (a++[((b:Int),DX c (((AZ ds)).1) (((AZ ds)).2.1) (((AZ ds)).2.2))])) (C4 ds (es.drop (b+1)) (b+1) a)) (C4 ds (es.drop (b+1)) (b+1) a)))):=by have hl:b<es.length:=(List.getElem?_eq_some_iff.1 hi).1;have he:es[b]=c:=(List.getElem?_eq_some_iff.1 hi).2;rw[<-getElem_cons_drop hl,C4]<;>(try rw[he])
def Ca (p0a:List UInt8) (ds:List (Df)):List (Int×Int)×Int:=cond (!(Er p0a ds)) (([],1)) (C4 ds ds 0 ([]))
noncomputable def aq:Code:=Tryz.f25.body.getD .skip
def vy:=ν ([.code aq])
def ff:=Ψ vy
def AF0:=Θ ff
def vw:=Ξ ff
def Lb:=Ψ vw
def UV:=ν (Au Lb)
def fe:=AB (Aq Aa 90 (AE UV)) (AE UV)
def vu:=AB (Aq Xf 90 (AD (AD fe))) (AD (AD fe))
def vt:=Ψ vu
def fd:=Ψ vt
def Wu:=Θ fd
def lq:=AB (Aq BH 90 (AE Wu)) (AE Wu)
def Wt:=Ξ fd
def lp:=Θ Wt
def Ws:=Ψ lp
def ln:=AB (Aq BH 90 (AE Ws)) (AE Ws)
def lm:=Ac 13 (AG Wt)
def Wq:=Ω lm
def ll:=Θ Wq
def Wp:=Ψ ll
def lk:=AB (Aq BH 90 (AE Wp)) (AE Wp)
def ACJ:=Ξ Wq
def ACI:=Ξ UV
theorem oN (v:List UInt8) (j0:Option Addr) (ds:List (Df)) (a:Nat) (w:World) (w0:rowsDf w j0 ds) (e1:ds.length<=4294967296) (hs:v.length<=4294967296) (ht:∀d∈ds,Ii d) (e5:ds.length<=a):Calls Tryz.prog 25 ([D [Y v,V j0 ds.length a]]:List Value).toArray w λe w'=>∃(z1:Option Addr) (y1:Nat),e=.returned (.tuple #[V z1 ((((Ca v ds)).1).length) y1,J (((Ca v ds)).2)])/\Below (U w) w w'/\AY (U w) w' [JR z1 y1 (((Ca v ds)).1)]:=by
 refine AS (fn:=Tryz.f25) (c:=aq) (n:=63) ?_;have K1:=Wk.start w;refine An vy [N (U w) [Y v,V j0 ds.length a] 27] K1 [(0,0)] λw1 K2=>?_;refine AW K2 (args:=[D [Y v,V j0 ds.length a]]) (MW v ds _ w1 hs e1 ht (w0.below K2.B).agr) λw2 K3=>?_;refine AC ff K3 [] λw3 K4=>?_;refine AH (!(Er v ds)) (λc4=>?_) (λc4=>?_)
 ·have K5:=K4.addNil 82 2 (λe r=>r=wY e);refine AC AF0 K5 [] λw5 K6=>?_;have hS:(Ca v ds)=([],1):=by unfold Ca;rw[c4]<;>rfl
  exact AN K6 (0,0) (.tuple #[V none 0 0,J 1]) ⟨none,0,by rw[hS]<;>rfl,K6.B,by rw[hS];exact K6.own0 [0] rfl (by decide)⟩
 refine AC vw K4 [(0,0)] λw6 K7=>?_;have Kf:=(K7.pickL (L':=[]++[]) [] rfl (by decide)).front;refine BL (gu _ v j0 ds a w w6 w0 (by first | assumption | omega | (simp<;>omega)) K7.B Kf) λen w8 hh=>?_;obtain⟨o,j,u,q,s,p,rfl,b8,Hn⟩:=hh;refine⟨_,rfl,?_⟩;have K8:=Wk.unfront b8 Hn;have q6:=Y2 ds;have v6:(AZ ds).1.length<=4294967296:=by omega
 have u6:(AZ ds).2.1.length<=4294967296:=by omega
 have t6:(AZ ds).2.2.length<=4294967296:=by omega
 refine AC Lb K8 [(0,1)] λw9 K9=>?_;have u4:Wk w w9 [N (U w) [Y v,V j0 ds.length a] 27] [(C7 w o j (((AZ ds)).1)),(C7 w u q (((AZ ds)).2.1)),(C7 w s p (((AZ ds)).2.2))] []:=K9.pk [0] [0,1,2];have t4:=u4.addNil 82 2 (λe r=>r=wY e);have l0:(Ca v ds)=C4 ds ds 0 ([]):=by unfold Ca;rw[c4]<;>rfl
 refine AX [(1,Z (U w)),(2,V none 0 0),(3,J 0),(4,V o ((((AZ ds)).1).length) j),(5,V u ((((AZ ds)).2.1).length) q),(6,V s ((((AZ ds)).2.2).length) p),(7,V none 0 0),(21,V j0 ds.length a),(22,J ((ds.length:Int))),(23,J (((0:Nat):Int)))] λc5=>?_;refine Bp (by kernel_rfl) (λE s1=>∃(f:Nat) (b:List (Int×Int)) (m:Option Addr) (l:Nat) (E0:Nat->Value),f<=ds.length/\E=BN E0 [(1,Z (U w)),(2,V none 0 0),(3,J 0),(4,V o ((((AZ ds)).1).length) j),(5,V u ((((AZ ds)).2.1).length) q),(6,V s ((((AZ ds)).2.2).length) p),(7,V m b.length l),(21,V j0 ds.length a),(22,J ((ds.length:Int))),(23,J ((f:Int)))]/\(Ca v ds)=C4 ds (List.drop f ds) f b/\b.length<=1*f+0/\Wk w s1 [N (U w) [Y v,V j0 ds.length a] 27] [(C7 w o j (((AZ ds)).1)),(C7 w u q (((AZ ds)).2.1)),(C7 w s p (((AZ ds)).2.2)),(JR m l b)] []) (λE _=>ds.length-AP (E 23)) ⟨0,([]),none,0,c5,Nat.zero_le _,rfl,l0,by simp,t4⟩ ?_;clear l0;rintro E s1 ⟨f,b,m,l,E0,m6,rfl,l0,c3,q4⟩ c0;refine AC UV q4 [] λk6 p2=>?_;refine AH (decide ((f:Int)<(ds.length:Int))) (λn1=>?_) (λn1=>?_)
 ·have k0:f<ds.length:=by have:=of_decide_eq_true n1;omega
  obtain⟨e0,f1⟩:∃e,ds[f]?=some e:=⟨_,getElem?_eq_getElem k0⟩;rw[Sh f e0 f1]at l0;obtain⟨d0,g0,rfl,e2,f2⟩:=w0.all (by omega);obtain⟨b0,z,a0,y,a2,r0,q0⟩:=f2 f _ f1;refine Ao Aa fe p2 [] λm0 o2=>?_;refine Aw (g:=d0) (off:=g0) (cap:=a) (sz:=21) (k:=f) (len:=ds.length) (some 26) k0 Tryz.underlying25 ?_;refine Bd 72 d0 (g0+f*21) _ (some 27) (Aj a2 e2 o2.B) ?_;refine Bn Xf vu [N (U w) [Y v,V (some ⟨d0,g0,none⟩) ds.length a] 27,N (U m0) ((CL e0 b0 z a0 y)) 72] o2 [(1,0),(0,1)] λh6 n4=>?_;refine EW (qo (g:=d0) (off:=g0) (len:=ds.length) (cap:=a) (t:=25) (x:=.tmp 29) (h:=.tmp 30) (by kernel_rfl) Tryz.underlying25 (by decide) (by kernel_rfl) (by kernel_rfl) (i:=f) (by omega)) ?_;refine AC vt n4 [] λa3 p0=>?_;refine AW p0 (args:=[V (some ⟨d0,g0,none⟩) f a,.func (.func 49) #[] ⟨[Z (U m0)]⟩]) (Ru (λx=>Hu x e0) _ (ds.take f) _ 49 [Z (U m0)] a3 ((w0.take _).below p0.B) (by simp<;>omega) (by simp<;>omega) (by kernel_rfl) (λu2 b2 x A1 c1 A2 c2 g1 g2=>Y7 x A1 c1 A2 c2 (U m0) e0 _ _ _ _ u2 g1 g2 (Nat.lt_of_lt_of_le (p0.ent (e:=(N (U m0) ((CL e0 b0 z a0 y)) 72)) 1 (by kernel_rfl)).1 b2.size) (Aj (Ka (p0.ent (e:=(N (U m0) ((CL e0 b0 z a0 y)) 72)) 1 (by kernel_rfl))) (p0.ent (e:=(N (U m0) ((CL e0 b0 z a0 y)) 72)) 1 (by kernel_rfl)).1 b2) (r0.below (p0.B.trans (b2.mono p0.B.size))) (q0.below (p0.B.trans (b2.mono p0.B.size))))) λg6 k4=>?_;refine AC fd k4 [] λf6 n2=>?_;refine AH (Ei (λx=>Hu x e0) (ds.take f)) (λt0=>?_) (λt0=>?_)
  ·refine AC Wu n2 [] λx1 h4=>?_;refine AH true (λ_=>?_) (λh=>nomatch h);refine Bn BH lq [N (U w) [Y v,V (some ⟨d0,g0,none⟩) ds.length a] 27,N (U m0) ((CL e0 b0 z a0 y)) 72,N (U x1) [J ((f:Int)),J 8] 82] h4 [] λe6 b1=>?_;refine CD b1.H (b1.ix 3) (b1.at 3 rfl) (((f:Int),8)) [J ((f:Int)),J 8] rfl (U x1) (b1.ent 2 (by kernel_rfl)) (Cr lq) (by kernel_rfl) (.tmp 55) (.tmp 59) 78 (by kernel_rfl) (by kernel_rfl) (by kernel_rfl) (by decide) (by kernel_rfl) (by kernel_rfl) rfl rfl (by((try simp only[maxLen,length_append,length_cons,length_nil,length_singleton])<;>omega)) λr1 m1 c6 Hn h3=>?_;have g4:=b1.put 3 (by simp) h3 Hn;refine AC (Ab Lb) g4 [] λz2 e4=>?_;refine AX [(1,Z (U w)),(2,V none 0 0),(3,J 0),(4,V o ((((AZ ds)).1).length) j),(5,V u ((((AZ ds)).2.1).length) q),(6,V s ((((AZ ds)).2.2).length) p),(7,V r1 ((b++[((f:Int),8)]).length) m1),(21,V (some ⟨d0,g0,none⟩) ds.length a),(22,J ((ds.length:Int))),(23,J (IntKind.i64.wrap ((f:Int)+1)))] λb5=>?_;have b4:Wk w z2 [N (U w) [Y v,V (some ⟨d0,g0,none⟩) ds.length a] 27] [(C7 w o j (((AZ ds)).1)),(C7 w u q (((AZ ds)).2.1)),(C7 w s p (((AZ ds)).2.2)),(JR r1 m1 (b++[((f:Int),8)]))] []:=e4.pk [0] [0,1,2,3];rw[Bs f (by omega)];refine c0 _ _ ⟨f+1,(b++[((f:Int),8)]),r1,m1,b5,k0,rfl,by rw[l0,t0]<;>rfl,by((try simp only[maxLen,length_append,length_cons,length_nil,length_singleton])<;>omega),b4⟩ ?_;show ds.length-AP (J ((f+1:Nat):Int))<ds.length-AP (J (f:Int));simp only[AP];omega
  refine AC Wt n2 [(1,0)] λb6 m2=>?_;refine AH (e0.kind==5) (λx0=>?_) (λx0=>?_)
  ·refine AC lp m2 [(1,0)] λy2 v0=>?_;refine BL (Tt e0 b0 z a0 y o (((AZ ds)).1) j y2 (r0.below v0.B) (q0.below v0.B) (v0.H.rowsDf v0.B (v0.ix 0) (v0.at 0 rfl)) (by first | assumption | omega | (simp<;>omega))) λen a6 hh=>?_;obtain⟨rfl,g3⟩:=hh;refine⟨_,rfl,?_⟩;have a4:=v0.below g3;refine AC Ws a4 [] λv1 l2=>?_;refine AH (!((C8 e0 (((AZ ds)).1))==0)) (λl1=>?_) (λl1=>?_)
   ·refine Bn BH ln [N (U w) [Y v,V (some ⟨d0,g0,none⟩) ds.length a] 27,N (U m0) ((CL e0 b0 z a0 y)) 72,N (U v1) [J ((f:Int)),J ((C8 e0 (((AZ ds)).1)))] 82] l2 [] λz5 a1=>?_;refine CD a1.H (a1.ix 3) (a1.at 3 rfl) (((f:Int),(C8 e0 (((AZ ds)).1)))) [J ((f:Int)),J ((C8 e0 (((AZ ds)).1)))] rfl (U v1) (a1.ent 2 (by kernel_rfl)) (Cr ln) (by kernel_rfl) (.tmp 55) (.tmp 59) 78 (by kernel_rfl) (by kernel_rfl) (by kernel_rfl) (by decide) (by kernel_rfl) (by kernel_rfl) rfl rfl (by((try simp only[maxLen,length_append,length_cons,length_nil,length_singleton])<;>omega)) λq1 k1 x5 Hn f3=>?_;have z3:=a1.put 3 (by simp) f3 Hn;refine AC (Ab Lb) z3 [] λx2 y3=>?_;refine AX [(1,Z (U w)),(2,V none 0 0),(3,J 0),(4,V o ((((AZ ds)).1).length) j),(5,V u ((((AZ ds)).2.1).length) q),(6,V s ((((AZ ds)).2.2).length) p),(7,V q1 ((b++[((f:Int),(C8 e0 (((AZ ds)).1)))]).length) k1),(21,V (some ⟨d0,g0,none⟩) ds.length a),(22,J ((ds.length:Int))),(23,J (IntKind.i64.wrap ((f:Int)+1)))] λa5=>?_;have x3:Wk w x2 [N (U w) [Y v,V (some ⟨d0,g0,none⟩) ds.length a] 27] [(C7 w o j (((AZ ds)).1)),(C7 w u q (((AZ ds)).2.1)),(C7 w s p (((AZ ds)).2.2)),(JR q1 k1 (b++[((f:Int),(C8 e0 (((AZ ds)).1)))]))] []:=y3.pk [0] [0,1,2,3];rw[Bs f (by omega)];refine c0 _ _ ⟨f+1,(b++[((f:Int),(C8 e0 (((AZ ds)).1)))]),q1,k1,a5,k0,rfl,by rw[l0,t0,x0,l1]<;>rfl,by((try simp only[maxLen,length_append,length_cons,length_nil,length_singleton])<;>omega),x3⟩ ?_;show ds.length-AP (J ((f+1:Nat):Int))<ds.length-AP (J (f:Int));simp only[AP];omega
   refine AC (Ab Lb) l2 [] λv2 v3=>?_;refine AX [(1,Z (U w)),(2,V none 0 0),(3,J 0),(4,V o ((((AZ ds)).1).length) j),(5,V u ((((AZ ds)).2.1).length) q),(6,V s ((((AZ ds)).2.2).length) p),(7,V m b.length l),(21,V (some ⟨d0,g0,none⟩) ds.length a),(22,J ((ds.length:Int))),(23,J (IntKind.i64.wrap ((f:Int)+1)))] λz4=>?_;have u3:Wk w v2 [N (U w) [Y v,V (some ⟨d0,g0,none⟩) ds.length a] 27] [(C7 w o j (((AZ ds)).1)),(C7 w u q (((AZ ds)).2.1)),(C7 w s p (((AZ ds)).2.2)),(JR m l b)] []:=v3.pk [0] [0,1,2,3];rw[Bs f (by omega)];refine c0 _ _ ⟨f+1,b,m,l,z4,k0,rfl,by rw[l0,t0,x0,l1]<;>rfl,by((try simp only[maxLen,length_append,length_cons,length_nil,length_singleton])<;>omega),u3⟩ ?_;show ds.length-AP (J ((f+1:Nat):Int))<ds.length-AP (J (f:Int));simp only[AP];omega
  refine Al 13 lm m2 [] λv5 k2=>?_;refine Ap k2 [(1,1,0),(5,1,0)] [] k2.G (λsp b3=>by cases b3) λu5 x6 t3=>?_;refine AC Wq t3 [] λt5 i2=>?_;refine AH (cond (e0.kind==3) (true) (e0.kind==4)) (λd1=>?_) (λd1=>?_)
  ·refine AC ll i2 [(1,0)] λt2 h0=>?_;refine AW h0 (args:=[D ((ψ e0 b0 z a0 y)),V o ((((AZ ds)).1).length) j,V u ((((AZ ds)).2.1).length) q,V s ((((AZ ds)).2.2).length) p]) (Tv e0 b0 z a0 y o (((AZ ds)).1) j u (((AZ ds)).2.1) q s (((AZ ds)).2.2) p t2 (r0.below h0.B) (q0.below h0.B) (h0.H.rowsDf h0.B (h0.ix 0) (h0.at 0 rfl)) (by first | assumption | omega | (simp<;>omega)) (h0.H.rowsDf h0.B (h0.ix 1) (h0.at 1 rfl)) (by first | assumption | omega | (simp<;>omega)) (h0.H.rowsDf h0.B (h0.ix 2) (h0.at 2 rfl)) (by first | assumption | omega | (simp<;>omega)) (ht _ (mem_of_getElem? f1)).1) λq5 r3=>?_;refine AC Wp r3 [] λt1 h2=>?_;refine AH (!(DX e0 (((AZ ds)).1) (((AZ ds)).2.1) (((AZ ds)).2.2)==0)) (λi1=>?_) (λi1=>?_)
   ·refine Bn BH lk [N (U w) [Y v,V (some ⟨d0,g0,none⟩) ds.length a] 27,N (U m0) ((CL e0 b0 z a0 y)) 72,N (U t1) [J ((f:Int)),J (DX e0 (((AZ ds)).1) (((AZ ds)).2.1) (((AZ ds)).2.2))] 82] h2 [] λk5 z0=>?_;refine CD z0.H (z0.ix 3) (z0.at 3 rfl) (((f:Int),DX e0 (((AZ ds)).1) (((AZ ds)).2.1) (((AZ ds)).2.2))) [J ((f:Int)),J (DX e0 (((AZ ds)).1) (((AZ ds)).2.1) (((AZ ds)).2.2))] rfl (U t1) (z0.ent 2 (by kernel_rfl)) (Cr lk) (by kernel_rfl) (.tmp 55) (.tmp 59) 78 (by kernel_rfl) (by kernel_rfl) (by kernel_rfl) (by decide) (by kernel_rfl) (by kernel_rfl) rfl rfl (by((try simp only[maxLen,length_append,length_cons,length_nil,length_singleton])<;>omega)) λp1 h1 h5 Hn e3=>?_;have q3:=z0.put 3 (by simp) e3 Hn;refine AC (Ab Lb) q3 [] λs2 p3=>?_;refine AX [(1,Z (U w)),(2,V none 0 0),(3,J 0),(4,V o ((((AZ ds)).1).length) j),(5,V u ((((AZ ds)).2.1).length) q),(6,V s ((((AZ ds)).2.2).length) p),(7,V p1 ((b++[((f:Int),DX e0 (((AZ ds)).1) (((AZ ds)).2.1) (((AZ ds)).2.2))]).length) h1),(21,V (some ⟨d0,g0,none⟩) ds.length a),(22,J ((ds.length:Int))),(23,J (IntKind.i64.wrap ((f:Int)+1)))] λx4=>?_;have o3:Wk w s2 [N (U w) [Y v,V (some ⟨d0,g0,none⟩) ds.length a] 27] [(C7 w o j (((AZ ds)).1)),(C7 w u q (((AZ ds)).2.1)),(C7 w s p (((AZ ds)).2.2)),(JR p1 h1 (b++[((f:Int),DX e0 (((AZ ds)).1) (((AZ ds)).2.1) (((AZ ds)).2.2))]))] []:=p3.pk [0] [0,1,2,3];rw[Bs f (by omega)];refine c0 _ _ ⟨f+1,(b++[((f:Int),DX e0 (((AZ ds)).1) (((AZ ds)).2.1) (((AZ ds)).2.2))]),p1,h1,x4,k0,rfl,by rw[l0,t0,x0,d1,i1]<;>rfl,by((try simp only[maxLen,length_append,length_cons,length_nil,length_singleton])<;>omega),o3⟩ ?_;show ds.length-AP (J ((f+1:Nat):Int))<ds.length-AP (J (f:Int));simp only[AP];omega
   refine AC (Ab Lb) h2 [] λr2 n3=>?_;refine AX [(1,Z (U w)),(2,V none 0 0),(3,J 0),(4,V o ((((AZ ds)).1).length) j),(5,V u ((((AZ ds)).2.1).length) q),(6,V s ((((AZ ds)).2.2).length) p),(7,V m b.length l),(21,V (some ⟨d0,g0,none⟩) ds.length a),(22,J ((ds.length:Int))),(23,J (IntKind.i64.wrap ((f:Int)+1)))] λw4=>?_;have m3:Wk w r2 [N (U w) [Y v,V (some ⟨d0,g0,none⟩) ds.length a] 27] [(C7 w o j (((AZ ds)).1)),(C7 w u q (((AZ ds)).2.1)),(C7 w s p (((AZ ds)).2.2)),(JR m l b)] []:=n3.pk [0] [0,1,2,3];rw[Bs f (by omega)];refine c0 _ _ ⟨f+1,b,m,l,w4,k0,rfl,by rw[l0,t0,x0,d1,i1]<;>rfl,by((try simp only[maxLen,length_append,length_cons,length_nil,length_singleton])<;>omega),m3⟩ ?_;show ds.length-AP (J ((f+1:Nat):Int))<ds.length-AP (J (f:Int));simp only[AP];omega
  refine AC ACJ i2 [] λg5 l3=>?_;refine AH false (λh=>nomatch h) (λ_=>?_);refine AC (Ab Lb) l3 [] λq2 k3=>?_;refine AX [(1,Z (U w)),(2,V none 0 0),(3,J 0),(4,V o ((((AZ ds)).1).length) j),(5,V u ((((AZ ds)).2.1).length) q),(6,V s ((((AZ ds)).2.2).length) p),(7,V m b.length l),(21,V (some ⟨d0,g0,none⟩) ds.length a),(22,J ((ds.length:Int))),(23,J (IntKind.i64.wrap ((f:Int)+1)))] λv4=>?_;have i3:Wk w q2 [N (U w) [Y v,V (some ⟨d0,g0,none⟩) ds.length a] 27] [(C7 w o j (((AZ ds)).1)),(C7 w u q (((AZ ds)).2.1)),(C7 w s p (((AZ ds)).2.2)),(JR m l b)] []:=k3.pk [0] [0,1,2,3];rw[Bs f (by omega)];refine c0 _ _ ⟨f+1,b,m,l,v4,k0,rfl,by rw[l0,t0,x0,d1]<;>rfl,by((try simp only[maxLen,length_append,length_cons,length_nil,length_singleton])<;>omega),i3⟩ ?_;show ds.length-AP (J ((f+1:Nat):Int))<ds.length-AP (J (f:Int));simp only[AP];omega
 have d2:f=ds.length:=by have:=of_decide_eq_false n1;omega
 rw[d2,drop_length,Tu]at l0;refine AC ACI p2 [] λf5 o1=>?_;have hS:(Ca v ds)=(b,0):=by rw[l0]<;>rfl
 exact AN o1 (0,0) (.tuple #[V m b.length l,J 0]) ⟨m,l,by rw[hS]<;>rfl,o1.B,by rw[hS];exact o1.own0 [3] rfl (by decide)⟩
end
end Go.Proofs.YtkpemkkbjfbmaaaGreat
namespace Go.Proofs.YtkpemkkbjfbmaaaGreat
open List
open Go.RowKit
set_option maxRecDepth 100000
set_option maxHeartbeats 1000000
abbrev YX:=Int×List UInt8×Int×Int×Int
def ga (x:Int):Prop:=-9223372036854775808<=x/\x<=9223372036854775807
end Go.Proofs.YtkpemkkbjfbmaaaGreat

/- Contracts of functions, part 39. -/
import Derived.Test.YtkjbdagicjbjjaaGreatTs20
import Derived.Test.YtkjbdagicjbjjaaGreatTs18
import Derived.Test.YtkjbdagicjbjjaaGreatTs38
set_option linter.all false
namespace Go.Proofs.YtkjbdagicjbjjaaGreat
noncomputable section
open Go.RowKit
set_option maxRecDepth 100000
set_option maxHeartbeats 1000000
theorem Fs.ok {b:Nat} {ns:List Int} {w:World}:∀ e w',Fs b ns w e w'→Be b ns w'∧CG b w w':=fun _ _ ⟨_,_,_,a,h2⟩=>⟨a,h2⟩
attribute [local irreducible] BD BP AC AD AF Ar AZ AM Aw Bk C6 BV EE C5 BO At Fr
noncomputable def Zk:Code:=Tryz.f26.body.getD .skip
def rW:=ν [.code Zk]
def bH:=Ω rW
def ACX:=Ξ bH
def ACW:=Ψ bH
theorem LJ (b:Nat) (ns:List Int) (w:World) (o:Be b ns w):Calls Tryz.prog 26 ([ζ b]:List Value).toArray w (Fs b ns w):=by
 refine AS (fn:=Tryz.f26) (c:=Zk) (n:=14) ?_
 obtain ⟨w0,d,i⟩:=Wk.tape o
 have f:=i.B
 refine Ah rW [ι (ε w) [δ 0,δ 0] 41] i [] fun l h=>?_
 refine BK h d 0 rfl (BR b ns 121 l (h.tapeOk d 0 rfl) (by omega) (by omega)) BX.ok fun e s m q=>?_
 obtain ⟨k,t,rfl,_,_⟩:=m
 refine ⟨_,rfl,?_⟩
 refine AB bH q [] fun r g=>?_
 refine AG (!(Int.tmod (IntKind.i64.wrap ((k:Int) - 20)) 2 == 0)) (fun p=>?_) (fun p=>?_)
 ·refine Am ACX g [(0,0)] fun j a=>?_
  exact AK a (0,0) (ψ [δ (IntKind.i64.wrap ((k:Int) - 20)),δ 2]) ⟨_,_,rfl,a.out d f⟩
 refine Am ACW g [(0,0)] fun j a=>?_
 exact AK a (0,0) (ψ [δ (IntKind.i64.wrap ((k:Int) - 20)),δ 1]) ⟨_,_,rfl,a.out d f⟩
noncomputable def Z5:Code:=Tryz.f10.body.getD .skip
def cN:=ν [.code Z5]
def sU:=AA (An (Ae) 90 (AC cN)) (AC cN)
def ADG:=ν (AC (AC sU))
def vJ:List (List UInt8):=[[97],[114,50],[98],[114,52],[114,51],[114,49],[97],[104],[119]]
theorem px (b:Nat) (ns:List Int) (w:World) (p:Be b ns w):Calls Tryz.prog 10 ([.pointer (some ⟨b,0,none⟩)]:List Value).toArray w fun e w'=>∃ s:List UInt8,s.length≤2∧e=.returned (.string ⟨⟨s⟩⟩)∧Be b ns w'∧CG b w w':=by
 refine AS (fn:=Tryz.f10) (c:=Z5) (n:=8) ?_
 obtain ⟨w0,d,j⟩:=Wk.tape p
 have m:=j.B
 refine Ah cN [⟨w.heap.size,0,[.string ⟨⟨[97]⟩⟩,.string ⟨⟨[114,50]⟩⟩,.string ⟨⟨[98]⟩⟩,.string ⟨⟨[114,52]⟩⟩,.string ⟨⟨[114,51]⟩⟩,.string ⟨⟨[114,49]⟩⟩,.string ⟨⟨[97]⟩⟩,.string ⟨⟨[104]⟩⟩,.string ⟨⟨[119]⟩⟩],9,true⟩] j [] fun l i=>?_
 refine BK i d 0 rfl (BR b ns 9 l (i.tapeOk d 0 rfl) (by omega) (by omega)) BX.ok fun e u o q=>?_
 obtain ⟨k,v,rfl,_,_⟩:=o
 refine ⟨_,rfl,?_⟩
 have a:k < 9:=by omega
 obtain ⟨s,hs⟩:∃ s,vJ[k]?=some s:=⟨_,List.getElem?_eq_getElem (show k < vJ.length from a)⟩
 have hl:s.length≤2:=by
  have hm:=List.mem_of_getElem? hs
  simp only [vJ,List.mem_cons,List.not_mem_nil,or_false] at hm
  rcases hm with rfl | rfl | rfl | rfl | rfl | rfl | rfl | rfl | rfl <;> decide
 refine Ak Ae sU q [] fun t h=>?_
 refine Ay (g:=w.heap.size) (off:=0) (cap:=9) (sz:=1) (k:=k) (len:=9) (some 6) a Tryz.underlying65 ?_
 have hc:=Gn (h.ent 0 rfl) k (.string ⟨⟨s⟩⟩) (by show (vJ.map fun s=>Value.string ⟨⟨s⟩⟩)[k]?=_; rw [List.getElem?_map,hs]; rfl)
 refine Dz 9 w.heap.size (0 + k * 1) (.string ⟨⟨s⟩⟩) (some 7) (by simpa using hc) ?_
 refine AB ADG h [] fun r f=>?_
 exact AK f (0,0) (.string ⟨⟨s⟩⟩) ⟨s,hl,rfl,f.out d m⟩
abbrev LF (A:Option Addr) (c:Nat) (l:List Dl):Th:=Th.row 81 3 (fun e r=>r=GW e) A c l
theorem Nt {n:Nat}:∀ (rs:List (List Value)) (k:Nat),(∀ r∈rs,r.length=n)→(rs.take k).flatten=rs.flatten.take (k * n)
 | [],k,_=>by simp
 | r :: rs,0,_=>by simp
 | r :: rs,k + 1,h=>by
  rw [List.take_succ_cons,List.flatten_cons,List.flatten_cons,Nt rs k fun r hr=>h r (by simp [hr]),Nat.succ_mul,Nat.add_comm,← h r (by simp),List.take_length_add_append]
theorem Aj.rowTake {α:Type} {b:Nat} {w:World} {L:List Th} {U:TypeId} {n:Nat} {f:α→List Value} {A:Option Addr} {c:Nat} {l:List α} (hn:∀ e,(f e).length=n) (h:Aj b w L) (i:Nat) (hi:L[i]?=some (Th.row U n (fun e r=>r=f e) A c l)) (k:Nat) (s:k≤l.length):Aj b w (L.set i (Th.row U n (fun e r=>r=f e) A c (l.take k))):=by
 obtain ⟨rs,hr,ho⟩:=h.all i _ hi
 have j:=IU hr
 have d:(l.take k).length=k:=by rw [List.length_take]; omega
 have a:∀ r∈rs,r.length=n:=fun r hm=>by
  rw [j] at hm
  obtain ⟨e,_,rfl⟩:=List.mem_map.1 hm
  exact hn e
 refine h.set i hi (Nat.le_refl _) ⟨(l.take k).map f,Es _,?_,?_⟩ (fun q p=>⟨(h.lo i _ hi q p).2,.inl p⟩) (fun _ _ _=>rfl)
 ·rw [List.map_take,← j,Nt rs k a,d,List.length_take,ho.1,Nat.min_eq_left (Nat.mul_le_mul_right _ s)]
 rw [List.map_take,← j,d,Nt rs k a]
 rcases ho.2 with ⟨m,h2⟩ | ⟨g,cap,o,m,h2,y,z,x,v,u⟩
 ·left
  simp only [Value.slice.injEq] at m
  obtain ⟨rfl,t,rfl⟩:=m
  exact ⟨by rw [show k=0 by omega],by omega⟩
 right
 simp only [Value.slice.injEq] at m
 obtain ⟨rfl,_,rfl⟩:=m
 refine ⟨g,c,o,rfl,h2,y,by omega,x,v,?_⟩
 rw [← u,List.take_take,Nat.min_eq_left (Nat.mul_le_mul_right _ s)]
noncomputable def Z9:Code:=Tryz.f8.body.getD .skip
def si:=ν [.code Z9]
def sg:=Ω si
def sf:=Ω sg
def sb:=Ω sf
def cd:=Ω sb
def cb:=Ξ cd
def Tw:=AA (An (Jb) 90 (AC cb)) (AC cb)
def ca:=AA (An (Bp) 90 (AC Tw)) (AC Tw)
def ADL:=Ω ca
def cZ:=Ψ cd
def js:=Ξ cZ
def VY:=Ω js
def jr:=AA (An (Ae) 90 (AC VY)) (AC VY)
def VW:=Ω jr
def QU:=Ψ cZ
def VV:=AA (An (Bp) 90 (AD QU)) (AD QU)
def yI:=Ω VV
def yH:=Ψ QU
theorem gK (b:Nat) (ns:List Int) (w:World) (hT:Be b ns w):Calls Tryz.prog 8 ([ζ b]:List Value).toArray w fun e w'=>∃ A c,∃ ins:List Dl,e=.returned (τ A ins.length c)∧ins.length≤4∧(∀ x∈ins,x.1.length≤2)∧Aj (b + 1) w' [LF A c ins]∧Be b ns w'∧CG b w w':=by
 refine AS (fn:=Tryz.f8) (c:=Z9) (n:=44) ?_
 obtain ⟨w0,d,K0⟩:=Wk.tape hT
 have hw:=K0.B
 refine AB si K0 [] fun w1 K1=>?_
 refine BK K1 d 0 rfl (LJ b ns w1 (K1.tapeOk d 0 rfl)) Fs.ok fun e w1 hq K1=>?_
 obtain ⟨m,t,rfl,_,_⟩:=hq
 refine ⟨_,rfl,?_⟩
 refine AB sg K1 [] fun w2 K2=>?_
 refine BK K2 d 0 rfl (LJ b ns w2 (K2.tapeOk d 0 rfl)) Fs.ok fun e w2 hq K2=>?_
 obtain ⟨l,s,rfl,_,_⟩:=hq
 refine ⟨_,rfl,?_⟩
 refine AB sf K2 [] fun u K3=>?_
 refine BK K3 d 0 rfl (BR b ns 2 _ (K3.tapeOk d 0 rfl) (by omega) (by omega)) BX.ok fun e u hq K3=>?_
 obtain ⟨p,g0,rfl,_,_⟩:=hq
 refine ⟨_,rfl,?_⟩
 refine Ah sb [ι (ε u) [η [104],δ m,δ t,η [103],δ l,δ s,η [102],δ (p:Int),δ 1] 81] K3 [] fun w4 K4=>?_
 refine BK K4 d 0 rfl (BR b ns 10 _ (K4.tapeOk d 0 rfl) (by omega) (by omega)) BX.ok fun e w4 hq K4=>?_
 obtain ⟨k,hk,rfl,_,_⟩:=hq
 refine ⟨_,rfl,?_⟩
 refine AB cd K4 [] fun w5 K5=>?_
 have b0:∀ x∈([([104],m,t),([103],l,s),([102],(p:Int),1)]:List Dl),x.1.length≤2:=fun x hx=>by
  simp only [List.mem_cons,List.not_mem_nil,or_false] at hx
  rcases hx with rfl | rfl | rfl <;> simp
 refine AG ((k:Int) == 7) (fun c1=>?_) (fun c1=>?_)
 ·refine AB cb K5 [] fun w6 K6=>?_
  refine BK K6 d 0 rfl (BR b ns 3 _ (K6.tapeOk d 0 rfl) (by omega) (by omega)) BX.ok fun e w6 hq K6=>?_
  obtain ⟨q,hq,rfl,_,_⟩:=hq
  refine ⟨_,rfl,?_⟩
  have a0:q≤3:=by omega
  have KR:=K6.entRows (n:=3) 0 (fun e r=>r=GW e) [([104],m,t),([103],l,s),([102],(p:Int),1)] ([([104],m,t),([103],l,s),([102],(p:Int),1)].map GW) (Es _) rfl rfl (by simp) rfl
  refine Ak Jb Tw KR [] fun w7 K7=>?_
  have K8:=K7.put 2 (by simp) (Below.refl _ _) (K7.H.rowTake (f:=GW) (n:=3) (fun _=>rfl) (K7.ix 2) (K7.at 2 rfl) q a0)
  refine DN (Nw (o:=CL Tw) (len:=3) (cap:=3) (i:=q) (a:=some ⟨ε u,0,none⟩) (x:=.tmp 19) (h:=.tmp 21) (by kernel_rfl) Tryz.underlying33 (by decide) (by kernel_rfl) (by kernel_rfl) a0 (fun a ha=>by obtain rfl:=Option.some.inj ha; rfl)) ?_
  have e0:(([([104],m,t),([103],l,s),([102],(p:Int),1)]:List Dl).take q).length=q:=by rw [List.length_take]; exact Nat.min_eq_left a0
  refine AU [(22,τ (some ⟨ε u,0,none⟩) q 3)] fun E8=>?_
  rw [← e0]
  generalize hli:([([104],m,t),([103],l,s),([102],(p:Int),1)]:List Dl).take q=li at K8 e0 ⊢
  refine CY Bp ca [ι (ε w7) [η [114,49],δ 9,δ 1] 81] K8 [] fun w9 K9=>?_
  refine Cw K9.H (K9.ix 2) (K9.at 2 rfl) ([114,49],9,1) (GW ([114,49],9,1)) rfl (ε w7) (K9.ent 0 rfl) (CL ca) (by kernel_rfl) (.tmp 22) (.tmp 25) 33 (by kernel_rfl) (by kernel_rfl) (by kernel_rfl) (by decide) (by kernel_rfl) (by kernel_rfl) rfl rfl (by omega) fun A2 c2 y Hn d0=>?_
  have j:=K9.put 2 (by simp) d0 Hn
  refine AB ADL j [] fun wz Kz=>?_
  have v:Wk w0 wz [] [BF w0 b ns,Bh b w,LF A2 c2 (li++[([114,49],9,1)])] []:=Kz.pk [] [0,1,2]
  refine AK Kz (0,0) (τ A2 (li++[([114,49],9,1)]).length c2) ⟨A2,c2,(li++[([114,49],9,1)]),rfl,by rw [List.length_append,List.length_singleton]; omega,?_,v.fin d,v.out d hw⟩
  intro x hx
  rcases List.mem_append.1 hx with hx | hx
  ·rw [← hli] at hx; exact b0 x (List.mem_of_mem_take hx)
  rw [List.mem_singleton.1 hx]; simp
 refine AB cZ K5 [] fun w6 K6=>?_
 refine AG ((k:Int) == 8) (fun c2=>?_) (fun c2=>?_)
 ·refine AB js K6 [] fun w7 K7=>?_
  refine BK K7 d 0 rfl (BR b ns 3 _ (K7.tapeOk d 0 rfl) (by omega) (by omega)) BX.ok fun e w7 hq K7=>?_
  obtain ⟨q,hq,rfl,_,_⟩:=hq
  refine ⟨_,rfl,?_⟩
  have a0:q < 3:=by omega
  refine AB VY K7 [] fun w8 K8=>?_
  refine BK K8 d 0 rfl (Ns b ns w8 (K8.tapeOk d 0 rfl)) Fs.ok fun e w8 hq K8=>?_
  obtain ⟨z,df,rfl,_,_⟩:=hq
  refine ⟨_,rfl,?_⟩
  refine Ak Ae jr K8 [] fun w9 K9=>?_
  refine Ay (g:=(ε u)) (off:=0) (cap:=3) (sz:=3) (k:=q) (len:=3) (some 34) a0 Tryz.underlying33 ?_
  have c0:q=0∨q=1∨q=2:=by omega
  rcases c0 with rfl | rfl | rfl
  ·refine Ah VW [ι (ε u) [η [104],δ z,δ df,η [103],δ l,δ s,η [102],δ (p:Int),δ 1] 81] K9 [(0,1)] fun y j=>?_
   have KR:=j.entRows (n:=3) 0 (fun e r=>r=GW e) ([([104],z,df),([103],l,s),([102],(p:Int),1)]:List Dl) (([([104],z,df),([103],l,s),([102],(p:Int),1)]:List Dl).map GW) (Es _) rfl rfl (by simp) rfl
   have v:Wk w0 y [] [BF w0 b ns,Bh b w,LF (some ⟨ε u,0,none⟩) 3 ([([104],z,df),([103],l,s),([102],(p:Int),1)]:List Dl)] []:=KR.pk [] [0,1,2]
   refine AK j (0,0) (τ (some ⟨ε u,0,none⟩) 3 3) ⟨some ⟨ε u,0,none⟩,3,([([104],z,df),([103],l,s),([102],(p:Int),1)]:List Dl),rfl,by simp,?_,v.fin d,v.out d hw⟩
   intro x hx
   simp only [List.mem_cons,List.not_mem_nil,or_false] at hx
   rcases hx with rfl | rfl | rfl <;> simp
  ·refine Ah VW [ι (ε u) [η [104],δ m,δ t,η [103],δ z,δ df,η [102],δ (p:Int),δ 1] 81] K9 [(0,4)] fun y j=>?_
   have KR:=j.entRows (n:=3) 0 (fun e r=>r=GW e) ([([104],m,t),([103],z,df),([102],(p:Int),1)]:List Dl) (([([104],m,t),([103],z,df),([102],(p:Int),1)]:List Dl).map GW) (Es _) rfl rfl (by simp) rfl
   have v:Wk w0 y [] [BF w0 b ns,Bh b w,LF (some ⟨ε u,0,none⟩) 3 ([([104],m,t),([103],z,df),([102],(p:Int),1)]:List Dl)] []:=KR.pk [] [0,1,2]
   refine AK j (0,0) (τ (some ⟨ε u,0,none⟩) 3 3) ⟨some ⟨ε u,0,none⟩,3,([([104],m,t),([103],z,df),([102],(p:Int),1)]:List Dl),rfl,by simp,?_,v.fin d,v.out d hw⟩
   intro x hx
   simp only [List.mem_cons,List.not_mem_nil,or_false] at hx
   rcases hx with rfl | rfl | rfl <;> simp
  refine Ah VW [ι (ε u) [η [104],δ m,δ t,η [103],δ l,δ s,η [102],δ z,δ df] 81] K9 [(0,7)] fun y j=>?_
  have KR:=j.entRows (n:=3) 0 (fun e r=>r=GW e) ([([104],m,t),([103],l,s),([102],z,df)]:List Dl) (([([104],m,t),([103],l,s),([102],z,df)]:List Dl).map GW) (Es _) rfl rfl (by simp) rfl
  have v:Wk w0 y [] [BF w0 b ns,Bh b w,LF (some ⟨ε u,0,none⟩) 3 ([([104],m,t),([103],l,s),([102],z,df)]:List Dl)] []:=KR.pk [] [0,1,2]
  refine AK j (0,0) (τ (some ⟨ε u,0,none⟩) 3 3) ⟨some ⟨ε u,0,none⟩,3,([([104],m,t),([103],l,s),([102],z,df)]:List Dl),rfl,by simp,?_,v.fin d,v.out d hw⟩
  intro x hx
  simp only [List.mem_cons,List.not_mem_nil,or_false] at hx
  rcases hx with rfl | rfl | rfl <;> simp
 refine AB QU K6 [] fun w7 K7=>?_
 have KR:=K7.entRows (n:=3) 0 (fun e r=>r=GW e) [([104],m,t),([103],l,s),([102],(p:Int),1)] (([([104],m,t),([103],l,s),([102],(p:Int),1)]:List Dl).map GW) (Es _) rfl rfl (by simp) rfl
 refine AG ((k:Int) == 9) (fun c3=>?_) (fun c3=>?_)
 ·refine CY Bp VV [ι (ε w7) [η [104],δ 77,δ 1] 81] KR [] fun w9 K9=>?_
  refine Cw K9.H (K9.ix 2) (K9.at 2 rfl) ([104],77,1) (GW ([104],77,1)) rfl (ε w7) (K9.ent 0 rfl) (CL VV) (by kernel_rfl) (.tmp 38) (.tmp 41) 33 (by kernel_rfl) (by kernel_rfl) (by kernel_rfl) (by decide) (by kernel_rfl) (by kernel_rfl) rfl rfl (by simp) fun A2 c2 y Hn d0=>?_
  have j:=K9.put 2 (by simp) d0 Hn
  refine AB yI j [] fun wz Kz=>?_
  have v:Wk w0 wz [] [BF w0 b ns,Bh b w,LF A2 c2 ([([104],m,t),([103],l,s),([102],(p:Int),1)]++[([104],77,1)]:List Dl)] []:=Kz.pk [] [0,1,2]
  refine AK Kz (0,0) (τ A2 ([([104],m,t),([103],l,s),([102],(p:Int),1)]++[([104],77,1)]:List Dl).length c2) ⟨A2,c2,([([104],m,t),([103],l,s),([102],(p:Int),1)]++[([104],77,1)]:List Dl),rfl,by simp,?_,v.fin d,v.out d hw⟩
  intro x hx
  rcases List.mem_append.1 hx with hx | hx
  ·exact b0 x hx
  rw [List.mem_singleton.1 hx]; simp
 skip
 refine AB yH KR [] fun wz Kz=>?_
 have v:Wk w0 wz [] [BF w0 b ns,Bh b w,LF (some ⟨ε u,0,none⟩) 3 ([([104],m,t),([103],l,s),([102],(p:Int),1)]:List Dl)] []:=Kz.pk [] [0,1,2]
 refine AK Kz (0,0) (τ (some ⟨ε u,0,none⟩) ([([104],m,t),([103],l,s),([102],(p:Int),1)]:List Dl).length 3) ⟨(some ⟨ε u,0,none⟩),3,([([104],m,t),([103],l,s),([102],(p:Int),1)]:List Dl),rfl,by simp,?_,v.fin d,v.out d hw⟩
 exact b0
end
end Go.Proofs.YtkjbdagicjbjjaaGreat

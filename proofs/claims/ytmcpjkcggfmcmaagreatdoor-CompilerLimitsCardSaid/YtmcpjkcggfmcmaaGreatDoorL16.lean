/-
  Part 16 of a proof: contracts of functions.
-/
import Derived.Test.YtmcpjkcggfmcmaaGreatDoorL15
set_option linter.all false
namespace Go.Proofs.YtmcpjkcggfmcmaaGreatDoor
open Go.RowKit
set_option maxRecDepth 100000
set_option maxHeartbeats 1000000
attribute [local irreducible] BD Bb AF AG AL A4 Ai AO BO CV Di CC Bp At Fr
def kM (ns ss ps:List Df) (x:Ex):List HI→HI
 | []=>PH ns ss ps x
 | [r0]=>Lx r0 ns ss ps x
 | [r0,r1]=>Jr r0 r1 ns ss ps x
 | [r0,r1,r2]=>Ik r0 r1 r2 ns ss ps x
 | _=>(false,0,0,0,1)
mutual
def En (ns ss ps:List Df):Ex→HI
 | .mk op num den mu hu du nm cnt md kids=>kM ns ss ps (.mk op num den mu hu du nm cnt md kids) (FI ns ss ps kids)
def FI (ns ss ps:List Df):List Ex→List HI
 | []=>[]
 | e :: es=>En ns ss ps e :: FI ns ss ps es
end
theorem II {op num den mu hu du:Int} {nm:List UInt8} {cnt md:Int} {kids:List Ex} {h:Int} (hv:EY (.mk op num den mu hu du nm cnt md kids) h=true):(kids.length:Int)=CP op∧EF kids (h - 1)=true:=by
 rw [EY] at hv
 cases h1:cond (decide (h < 1)) true (!((kids.length:Int) == CP op)) with
 | true=>rw [h1] at hv; exact nomatch hv
 | false=>
  rw [h1] at hv
  have h2:((kids.length:Int) == CP op)=true:=by
   cases h3:decide (h < 1) with
   | true=>rw [h3] at h1; exact nomatch h1
   | false=>rw [h3] at h1; cases h4:((kids.length:Int) == CP op) with
    | true=>rfl
    | false=>rw [h4] at h1; exact nomatch h1
  refine ⟨eq_of_beq h2,?_⟩
  cases h5:CW op num den mu hu du nm cnt md with
  | true=>rw [h5] at hv; exact hv
  | false=>rw [h5] at hv; exact nomatch hv
theorem Jn {h:Int}:∀ {kids:List Ex} {i:Nat} {e:Ex},EF kids h=true→kids[i]?=some e→EY e h=true
 | [],_,_,_,hi=>by simp at hi
 | x :: es,i,e,hv,hi=>by
  rw [EF] at hv
  cases h1:EY x h with
  | false=>rw [h1] at hv; exact nomatch hv
  | true=>
   rw [h1] at hv
   cases i with
   | zero=>simp at hi; subst hi; exact h1
   | succ i=>exact Jn (i:=i) hv (by simpa using hi)
theorem Ri {op:Int} (h:0≤CP op):op=1∨op=2∨op=3∨op=20∨op=21∨op=4∨op=16∨op=17∨op=19∨op=5∨op=6∨op=7∨op=8∨op=9∨op=10∨op=11∨op=12∨op=13∨op=14∨op=15∨op=18:=by
 unfold CP at h
 cases q1:(op == 1) with
 | true=>exact .inl (eq_of_beq q1)
 | false=>
 rw [q1] at h
 cases q2:(op == 2) with
 | true=>exact .inr (.inl (eq_of_beq q2))
 | false=>
 rw [q2] at h
 cases q3:(op == 3) with
 | true=>exact .inr (.inr (.inl (eq_of_beq q3)))
 | false=>
 rw [q3] at h
 cases q20:(op == 20) with
 | true=>exact .inr (.inr (.inr (.inl (eq_of_beq q20))))
 | false=>
 rw [q20] at h
 cases q21:(op == 21) with
 | true=>exact .inr (.inr (.inr (.inr (.inl (eq_of_beq q21)))))
 | false=>
 rw [q21] at h
 cases q4:(op == 4) with
 | true=>exact .inr (.inr (.inr (.inr (.inr (.inl (eq_of_beq q4))))))
 | false=>
 rw [q4] at h
 cases q16:(op == 16) with
 | true=>exact .inr (.inr (.inr (.inr (.inr (.inr (.inl (eq_of_beq q16)))))))
 | false=>
 rw [q16] at h
 cases q17:(op == 17) with
 | true=>exact .inr (.inr (.inr (.inr (.inr (.inr (.inr (.inl (eq_of_beq q17))))))))
 | false=>
 rw [q17] at h
 cases q19:(op == 19) with
 | true=>exact .inr (.inr (.inr (.inr (.inr (.inr (.inr (.inr (.inl (eq_of_beq q19)))))))))
 | false=>
 rw [q19] at h
 cases q5:(op == 5) with
 | true=>exact .inr (.inr (.inr (.inr (.inr (.inr (.inr (.inr (.inr (.inl (eq_of_beq q5))))))))))
 | false=>
 rw [q5] at h
 cases q6:(op == 6) with
 | true=>exact .inr (.inr (.inr (.inr (.inr (.inr (.inr (.inr (.inr (.inr (.inl (eq_of_beq q6)))))))))))
 | false=>
 rw [q6] at h
 cases q7:(op == 7) with
 | true=>exact .inr (.inr (.inr (.inr (.inr (.inr (.inr (.inr (.inr (.inr (.inr (.inl (eq_of_beq q7))))))))))))
 | false=>
 rw [q7] at h
 cases q8:(op == 8) with
 | true=>exact .inr (.inr (.inr (.inr (.inr (.inr (.inr (.inr (.inr (.inr (.inr (.inr (.inl (eq_of_beq q8)))))))))))))
 | false=>
 rw [q8] at h
 cases q9:(op == 9) with
 | true=>exact .inr (.inr (.inr (.inr (.inr (.inr (.inr (.inr (.inr (.inr (.inr (.inr (.inr (.inl (eq_of_beq q9))))))))))))))
 | false=>
 rw [q9] at h
 cases q10:(op == 10) with
 | true=>exact .inr (.inr (.inr (.inr (.inr (.inr (.inr (.inr (.inr (.inr (.inr (.inr (.inr (.inr (.inl (eq_of_beq q10)))))))))))))))
 | false=>
 rw [q10] at h
 cases q11:(op == 11) with
 | true=>exact .inr (.inr (.inr (.inr (.inr (.inr (.inr (.inr (.inr (.inr (.inr (.inr (.inr (.inr (.inr (.inl (eq_of_beq q11))))))))))))))))
 | false=>
 rw [q11] at h
 cases q12:(op == 12) with
 | true=>exact .inr (.inr (.inr (.inr (.inr (.inr (.inr (.inr (.inr (.inr (.inr (.inr (.inr (.inr (.inr (.inr (.inl (eq_of_beq q12)))))))))))))))))
 | false=>
 rw [q12] at h
 cases q13:(op == 13) with
 | true=>exact .inr (.inr (.inr (.inr (.inr (.inr (.inr (.inr (.inr (.inr (.inr (.inr (.inr (.inr (.inr (.inr (.inr (.inl (eq_of_beq q13))))))))))))))))))
 | false=>
 rw [q13] at h
 cases q14:(op == 14) with
 | true=>exact .inr (.inr (.inr (.inr (.inr (.inr (.inr (.inr (.inr (.inr (.inr (.inr (.inr (.inr (.inr (.inr (.inr (.inr (.inl (eq_of_beq q14)))))))))))))))))))
 | false=>
 rw [q14] at h
 cases q15:(op == 15) with
 | true=>exact .inr (.inr (.inr (.inr (.inr (.inr (.inr (.inr (.inr (.inr (.inr (.inr (.inr (.inr (.inr (.inr (.inr (.inr (.inr (.inl (eq_of_beq q15))))))))))))))))))))
 | false=>
 rw [q15] at h
 cases q18:(op == 18) with
 | true=>exact .inr (.inr (.inr (.inr (.inr (.inr (.inr (.inr (.inr (.inr (.inr (.inr (.inr (.inr (.inr (.inr (.inr (.inr (.inr (.inr ((eq_of_beq q18)))))))))))))))))))))
 | false=>
 rw [q18] at h
 exact absurd h (by decide)
def Ls (ns ss ps:List Df) (p0aA p0bA p0cA:Option Addr) (p0ac p0bc p0cc n:Nat):Prop:=∀ (e:Ex) (h:Int) (A:Option Addr) (c:Nat) (w:World),e.height≤n→EY e h=true→rowsDf w p0aA ns→rowsDf w p0bA ss→rowsDf w p0cA ps→rowsEx w A e.ks→Calls Tryz.prog 125 ([.agg ⟨[.slice p0aA ns.length p0ac,.slice p0bA ss.length p0bc,.slice p0cA ps.length p0cc]⟩,.agg ⟨Bo e A c⟩]:List Value).toArray w fun en w'=>en=.returned (Ha (En ns ss ps e))∧Below w.heap.size w w'
theorem Vy {ns ss ps:List Df} {p0aA p0bA p0cA:Option Addr} {p0ac p0bc p0cc:Nat} (hl_ns:ns.length≤4294967296) (hl_ss:ss.length≤4294967296) (hl_ps:ps.length≤4294967296) (n:Nat) (IH:Ls ns ss ps p0aA p0bA p0cA p0ac p0bc p0cc n):Ls ns ss ps p0aA p0bA p0cA p0ac p0bc p0cc (n + 1):=by
 rintro ⟨op,num,den,mu,hu,du,nm,cnt,md,kids⟩ h A c w hh hv h_ns h_ss h_ps h_x
 obtain ⟨hk,hv⟩:=II hv
 have hhk:Ex.heights kids≤n:=by unfold Ex.height at hh; omega
 have HK:∀ (i:Nat) (k:Ex),kids[i]?=some k→∀ u,Below w.heap.size w u→∀ (A':Option Addr) (c':Nat),rowsEx u A' k.ks→Calls Tryz.prog 125 ([.agg ⟨[.slice p0aA ns.length p0ac,.slice p0bA ss.length p0bc,.slice p0cA ps.length p0cc]⟩,.agg ⟨Bo k A' c'⟩]:List Value).toArray u fun en w'=>en=.returned (Ha (En ns ss ps k))∧Below u.heap.size u w':=fun i k hi u B A' c' hx=>
  IH k (h - 1) A' c' u (by have:=Gy hi; omega) (Jn hv hi) (h_ns.below B) (h_ss.below B) (h_ps.below B) hx
 rw [En]
 have h3:kids.length≤3:=by
  rcases Ri (op:=op) (by omega) with rfl | rfl | rfl | rfl | rfl | rfl | rfl | rfl | rfl | rfl | rfl | rfl | rfl | rfl | rfl | rfl | rfl | rfl | rfl | rfl | rfl <;> (have e:(kids.length:Int)≤3:=by rw [hk]; decide) <;> omega
 match kids,hk,hv,hhk,HK,h3,h_x with
 | [],hk,hv,hhk,HK,h3,h_x=>rw [FI]; exact PG p0aA ns p0ac p0bA ss p0bc p0cA ps p0cc (.mk op num den mu hu du nm cnt md []) A c w h_ns hl_ns h_ss hl_ss h_ps hl_ps h_x rfl
 | [k0],hk,hv,hhk,HK,h3,h_x=>rw [FI,FI]; exact PF (En ns ss ps k0) p0aA ns p0ac p0bA ss p0bc p0cA ps p0cc (.mk op num den mu hu du nm cnt md [k0]) A k0 c w h_ns hl_ns h_ss hl_ss h_ps hl_ps h_x rfl (HK 0 _ rfl)
 | [k0,k1],hk,hv,hhk,HK,h3,h_x=>rw [FI,FI,FI]; exact PE (En ns ss ps k0) (En ns ss ps k1) p0aA ns p0ac p0bA ss p0bc p0cA ps p0cc (.mk op num den mu hu du nm cnt md [k0,k1]) A k0 k1 c w h_ns hl_ns h_ss hl_ss h_ps hl_ps h_x rfl (HK 0 _ rfl) (HK 1 _ rfl)
 | [k0,k1,k2],hk,hv,hhk,HK,h3,h_x=>rw [FI,FI,FI,FI]; exact PD (En ns ss ps k0) (En ns ss ps k1) (En ns ss ps k2) p0aA ns p0ac p0bA ss p0bc p0cA ps p0cc (.mk op num den mu hu du nm cnt md [k0,k1,k2]) A k0 k1 k2 c w h_ns hl_ns h_ss hl_ss h_ps hl_ps h_x rfl (HK 0 _ rfl) (HK 1 _ rfl) (HK 2 _ rfl)
 | _ :: _ :: _ :: _ :: _,_,_,_,_,h3,_=>simp at h3
theorem Lw {ns ss ps:List Df} {p0aA p0bA p0cA:Option Addr} {p0ac p0bc p0cc:Nat} (hl_ns:ns.length≤4294967296) (hl_ss:ss.length≤4294967296) (hl_ps:ps.length≤4294967296):∀ n,Ls ns ss ps p0aA p0bA p0cA p0ac p0bc p0cc n
 | 0=>fun e h A c w hh=>absurd hh (by cases e; unfold Ex.height; omega)
 | n + 1=>Vy hl_ns hl_ss hl_ps n (Lw hl_ns hl_ss hl_ps n)
end Go.Proofs.YtmcpjkcggfmcmaaGreatDoor
namespace Go.Proofs.YtmcpjkcggfmcmaaGreatDoor
noncomputable section
open Go.RowKit
set_option maxRecDepth 100000
set_option maxHeartbeats 1000000
attribute [local irreducible] BD Bb AF AG AL A4 Ai AO BO CV Di CC Bp At Fr
def BP (x:Ex) (ns:List (Df)) (ss:List (Df)) (ps:List (Df)):Bool×Int×Int×Int×Int:=cond (!(Da x)) ((false,0,0,0,1)) (En ns ss ps x)
def Si (r:Bool×Int×Int×Int×Int):Value:=.tuple #[.agg ⟨[.bool (r.1),.int .i64 (r.2.1),.int .i64 (r.2.2.1),.int .i64 (r.2.2.2.1)]⟩,.int .i64 (r.2.2.2.2)]
noncomputable def Xg:Code:=Tryz.f88.body.getD .skip
def fV:List Item:=AB 60 ([.code Xg])
def Yt:List Item:=AB 60 (AF fV)
def m5:List Item:=AB 60 (AG Yt)
def fU:List Item:=AB 60 (AL Yt)
def m4:List Item:=AB 60 (AF fU)
theorem PC (x:Ex) (p0A0:Option Addr) (p0c0:Nat) (p1A:Option Addr) (ns:List (Df)) (p1c:Nat) (p2A:Option Addr) (ss:List (Df)) (p2c:Nat) (p3A:Option Addr) (ps:List (Df)) (p3c:Nat) (w:World) (h_x0:rowsEx w p0A0 x.ks) (h_ns:rowsDf w p1A ns) (hl_ns:ns.length≤4294967296) (h_ss:rowsDf w p2A ss) (hl_ss:ss.length≤4294967296) (h_ps:rowsDf w p3A ps) (hl_ps:ps.length≤4294967296) (ht:DT x):Calls Tryz.prog 88 ([.agg ⟨[.int .i64 x.op,.int .i64 x.num,.int .i64 x.den,.int .i64 x.mu,.int .i64 x.hu,.int .i64 x.du,.string ⟨⟨x.nm⟩⟩,.int .i64 x.cnt,.int .i64 x.md,.slice p0A0 x.ks.length p0c0]⟩,.slice p1A ns.length p1c,.slice p2A ss.length p2c,.slice p3A ps.length p3c]:List Value).toArray w fun e w'=>e=.returned (Si (BP x ns ss ps))∧Below w.heap.size w w':=by
 refine Ab (fn:=Tryz.f88) (c:=Xg) (n:=22) ?_
 have K1:=Wk.start w
 refine BF fV K1 [(0,0)] fun w1 K2=>?_
 refine Ak K2 (HM x x.op x.num x.den x.mu x.hu x.du x.nm x.cnt x.md p0A0 x.ks.length p0c0 w1 ht (mx (h_x0.below K2.B))) fun w2 K3=>?_
 refine AC Yt K3 [] fun w3 K4=>?_
 refine AK (!(Da x)) (fun c4=>?_) (fun c4=>?_)
 ·refine AC m5 K4 [(1,0)] fun w5 K5=>?_
  exact AM K5 (1,0) (.tuple #[.agg ⟨[.bool false,.int .i64 0,.int .i64 0,.int .i64 0]⟩,.int .i64 1]) (by unfold BP; rw [c4] <;> rfl)
 ·refine AC fU K4 [(0,0)] fun w6 K6=>?_
  refine Ak K6 (args:=[.agg ⟨[.slice p1A ns.length p1c,.slice p2A ss.length p2c,.slice p3A ps.length p3c]⟩,.agg ⟨[.int .i64 x.op,.int .i64 x.num,.int .i64 x.den,.int .i64 x.mu,.int .i64 x.hu,.int .i64 x.du,.string ⟨⟨x.nm⟩⟩,.int .i64 x.cnt,.int .i64 x.md,.slice p0A0 x.ks.length p0c0]⟩]) (Lw hl_ns hl_ss hl_ps _ x 32 _ _ w6 (Nat.le_refl _) (by simpa [Da] using ‹(!(Da x))=false›) (h_ns.below K6.B) (h_ss.below K6.B) (h_ps.below K6.B) (h_x0.below K6.B)) fun w7 K7=>?_
  refine BF m4 K7 [(1,0)] fun w8 K8=>?_
  exact AM K8 (1,0) (.tuple #[.agg ⟨[.bool ((En ns ss ps x).1),.int .i64 ((En ns ss ps x).2.1),.int .i64 ((En ns ss ps x).2.2.1),.int .i64 ((En ns ss ps x).2.2.2.1)]⟩,.int .i64 ((En ns ss ps x).2.2.2.2)]) (by unfold BP; rw [c4] <;> rfl)
end
end Go.Proofs.YtmcpjkcggfmcmaaGreatDoor

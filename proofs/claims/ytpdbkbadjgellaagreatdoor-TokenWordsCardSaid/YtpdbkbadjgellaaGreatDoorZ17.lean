/-
  The reference's within and ValidExpr.
  The reference's ValidExpr, and Same against the empty expression.
  The reference's ValidEntries.
-/
import Derived.Test.YtpdbkbadjgellaaGreatDoorZ16
namespace Go.Proofs.YtpdbkbadjgellaaGreatDoor
open Go.RowKit
section
set_option maxRecDepth 100000
/-- The code's way alone, up to a region's number. -/
def atReg (q : Nat) : List Item → Bool
  | .code (.region i _ _) :: _ => Nat.beq i q
  | _ => false
def cntA (q : Nat) : Nat → List Item → Nat
  | 0, _ => 0
  | m + 1, t => match atReg q t with
    | true => 0
    | false => match stepT t with
      | some t' => cntA q m t' + 1
      | none => 0
noncomputable def advA (q : Nat) (t : List Item) : List Item := advT (cntA q 90 t) t
theorem exec_index {P : Program} {o : Oper} {ρ : Operand → Value} {w : World} (T : TypeId) (x i : Operand) (hop : o.op = .indexAddr T x i) {g off len cap k sz : Nat} {e : TypeId} (hx : ρ x = .slice (some ⟨g, off, none⟩) len cap) (hi : ρ i = .int .i64 k) (hk : k < len)
    (hT : P.underlying T = some (.slice e)) (hs : (P.info? e).map (·.size) = some sz) : (execOp ρ o).run P w = .ok (.value (.pointer (some ⟨g, off + k * sz, none⟩))) w := by
  unfold execOp
  cases hq : P.info? e with
  | none => rw [hq] at hs; cases hs
  | some inf =>
    have hsz : inf.size = sz := by rw [hq] at hs; exact Option.some.inj hs
    simp [hop, hx, hi, Instr.indexAt, asIntOf, run_underlying hT, hk, sizeOf, typeInfo, hq, hsz, Addr.add]
    try (intro h0; simp [h0])
mutual
/-- Short names, few kids. -/
def tidy : Ex → Prop
  | .mk _ _ _ _ _ _ name _ _ kids => name.length ≤ 5 ∧ kids.length ≤ 3 ∧ tidies kids
def tidies : List Ex → Prop
  | [] => True
  | e :: es => tidy e ∧ tidies es
end
theorem tidies_get : ∀ {es : List Ex} {i : Nat} {e : Ex}, tidies es → es[i]? = some e → tidy e
  | [], _, _, _, h => by simp at h
  | x :: es, 0, e, h, hi => by unfold tidies at h; simp at hi; exact hi ▸ h.1
  | x :: es, i + 1, e, h, hi => by unfold tidies at h; exact tidies_get h.2 (by simpa using hi)
theorem arity_le (op : Int) : arity op ≤ 3 := by
  unfold arity
  split
  · decide
  · split
    · decide
    · split <;> decide
mutual
theorem tidy_ok : ∀ (e : Ex), okE e → tidy e
  | .mk op num den mu hu du name count mode kids, h => by
    unfold okE at h
    unfold tidy
    have h1 := h.1
    unfold okLocal at h1
    exact ⟨by omega, by have := arity_le op; omega, tidies_ok kids h.2⟩
theorem tidies_ok : ∀ (es : List Ex), okEs es → tidies es
  | [], _ => by unfold tidies; trivial
  | e :: es, h => by unfold okEs at h; unfold tidies; exact ⟨tidy_ok e h.1, tidies_ok es h.2⟩
end
theorem tidy_none : tidy exNone := by unfold exNone tidy tidies; exact ⟨by simp, by simp, trivial⟩
theorem exsS_get {S : Nat → Prop} {w : World} : ∀ {es : List Ex} {ks : List (List Value)} {i : Nat} {e : Ex}, exsS S w es ks → es[i]? = some e → ∃ r, ks[i]? = some r ∧ exS S w e r
  | [], _, _, _, _, h => by simp at h
  | x :: es, ks, i, e, h, hi => by
    unfold exsS at h
    obtain ⟨c, cs, rfl, h1, h2⟩ := h
    cases i with
    | zero => simp at hi; subst hi; exact ⟨c, by simp, h1⟩
    | succ i => obtain ⟨r, hr, hx⟩ := exsS_get (i := i) h2 (by simpa using hi); exact ⟨r, by simpa using hr, hx⟩
theorem heights_get : ∀ {es : List Ex} {i : Nat} {e : Ex}, es[i]? = some e → Ex.height e ≤ Ex.heights es
  | [], _, _, h => by simp at h
  | x :: es, 0, e, h => by unfold Ex.heights; simp at h; subst h; omega
  | x :: es, i + 1, e, h => by unfold Ex.heights; have := heights_get (es := es) (i := i) (e := e) (by simpa using h); omega
mutual
def withinB : Ex → Int → Bool
  | .mk op num den mu hu du name count mode kids, h => !((decide (h < 1) || (kids.length : Int) != kidsI op) || !(ownB op num den mu hu du name count mode)) && withinAll kids (h - 1)
def withinAll : List Ex → Int → Bool
  | [], _ => true
  | e :: es, h => withinB e h && withinAll es h
end
theorem withinAll_get : ∀ {es : List Ex} {i : Nat} {e : Ex} {h : Int}, es[i]? = some e → withinB e h = false → withinAll es h = false
  | [], _, _, _, hi, _ => by simp at hi
  | x :: es, 0, e, h, hi, hb => by unfold withinAll; simp at hi; rw [hi, hb]; rfl
  | x :: es, i + 1, e, h, hi, hb => by unfold withinAll; rw [withinAll_get (es := es) (i := i) (by simpa using hi) hb]; simp
theorem withinAll_all : ∀ {es : List Ex} {h : Int}, (∀ (i : Nat) e, es[i]? = some e → withinB e h = true) → withinAll es h = true
  | [], _, _ => by unfold withinAll; rfl
  | x :: es, h, hh => by unfold withinAll; rw [hh 0 x (by simp), withinAll_all fun i e hi => hh (i + 1) e (by simpa using hi)]; rfl

noncomputable def codeWithin : Code := Tryz.f131.body.getD .skip
noncomputable def tW1 : List Item := advG [.code codeWithin]
noncomputable def tW2 : List Item := advG (tailT tW1)
noncomputable def tW3 : List Item := advG (elseT tW2)
noncomputable def tW4 : List Item := advG (bodyT tW3)
noncomputable def tW6 : List Item := advA 6 (thenT tW4)
noncomputable def tW7 : List Item := advG (tailT tW6)
def memW (w : World) (cs : List Value) : List Ent := [⟨w.heap.size, 0, cs, 91, true⟩]
def envW (w : World) (h : Int) (i : Nat) : List (Nat × Value) := [(1, .int .i64 h), (2, pt w.heap.size 0), (5, .int .i64 i)]
theorem below_own {w wx wy : World} {cs : List Value} (hB : Below w.heap.size w wx) (hK : Kept ((memW w cs).map (·.id)) wx.heap.size wx wy) : Below w.heap.size w wy :=
  ⟨hK.os.trans hB.os, hK.tape.trans hB.tape, hK.output.trans hB.output, Nat.le_trans hB.size hK.size, fun i hi => (hK.block i (by have := hB.size; omega) (by simp [memW]; omega)).trans (hB.block i hi)⟩
def WithinSaid (n : Nat) : Prop := ∀ (e : Ex) (cs : List Value) (h : Int) (w : World), e.height ≤ n → tidy e → exS (fun _ => True) w e cs → -1000 ≤ h → h ≤ 1000 → Calls Tryz.prog 131 #[.agg cs.toArray, .int .i64 h] w fun en w' => en = .returned (.bool (withinB e h)) ∧ Below w.heap.size w w'

theorem within_end {w wx : World} {E : Nat → Value} {todo : List Item} {r v : Bool} (hB : Below w.heap.size w wx) (hv : r = v)
    (he : (fun a : St => (isRet a.todo, a.ms.eqs, (lrun Tryz.prog (resultsE Tryz.f131 38 a.env) ⟨0, [], (0, 0), []⟩).map (fun r => (r.1, r.2.eqs)))) (adv Tryz.prog 38 (cntG 90 todo) ⟨todo, E, ⟨wx.heap.size, [], (0, 0), []⟩, []⟩) = (true, [], some (.bool v, []))) :
    At Tryz.prog 131 (fun en w' => en = .returned (.bool r) ∧ Below w.heap.size w w') todo (Fr 38 E) wx := by
  refine at_end [] (.bool v) (fn := Tryz.f131) (by kernel_rfl) (lies_nil wx) he fun w3 hK => ⟨by rw [hv], ?_⟩
  exact hB.trans ((below_kept hK).mono hB.size)
theorem within_step (n : Nat) (IH : WithinSaid n) : WithinSaid (n + 1) := by
  rintro ⟨op, num, den, mu, hu, du, nm, cnt, md, kids⟩ cs h w hh ht hx h0 h1
  unfold exS at hx
  obtain ⟨A, c, ks, rfl, hks, hrows⟩ := hx
  unfold tidy at ht
  obtain ⟨hn, hl, ht⟩ := ht
  have hhk : Ex.heights kids ≤ n := by unfold Ex.height at hh; omega
  clear hh
  show Calls _ _ #[.agg (exC op num den mu hu du nm cnt md A kids.length c).toArray, .int .i64 h] w _
  refine calls_at (args := [.agg (exC op num den mu hu du nm cnt md A kids.length c).toArray, .int .i64 h]) (fn := Tryz.f131) (c := codeWithin) (n := 38) (by kernel_rfl) (by kernel_rfl) (by kernel_rfl) (by kernel_rfl) ?_
  refine at_run (cntG 90 [.code codeWithin]) [.code codeWithin] w.heap.size [] [] tW1 [(1, .int .i64 h), (2, pt w.heap.size 0)] (w.heap.size + 1) (memW w (exC op num den mu hu du nm cnt md A kids.length c)) (lies_nil w) (by kernel_rfl) fun w1 E1 L K => ?_
  have B := below_kept K
  replace L := lies_any L
  clear K
  have hS : ∀ sp ∈ [(⟨8, [(13, .int .i64 op)], .int .i64 (kidsI op), !(decide (h < 1)) && true⟩ : Sp), ⟨13, [(18, .agg (exC op num den mu hu du nm cnt md A kids.length c).toArray)], .bool (ownB op num den mu hu du nm cnt md), !(decide (h < 1) || (kids.length : Int) != kidsI op) && true⟩], SpecOk Tryz.prog 38 (Below w1.heap.size w1) ((curReg tW1).getD #[]) sp := by
    intro sp hsp
    simp only [List.mem_cons, List.not_mem_nil, or_false] at hsp
    rcases hsp with rfl | rfl
    · exact spec_call 141 [.tmp 13] [.int .i64 op] (by kernel_rfl) (by kernel_rfl) (fun E => by kernel_rfl) fun hc y hy => below_call hy (rkids_any op y)
    · exact spec_call 142 [.tmp 18] [.agg (exC op num den mu hu du nm cnt md A kids.length c).toArray] (by kernel_rfl) (by kernel_rfl) (fun E => by kernel_rfl) fun hc y hy => below_call hy (rown_any op num den mu hu du nm cnt md A kids.length c y (by unfold maxLen; omega))
  refine at_ghost ((curReg tW1).getD #[]) ⟨memW w (exC op num den mu hu du nm cnt md A kids.length c), [(4, 0, 9), (7, 0, 0), (12, 0, 0)], _⟩ [(1, .int .i64 h), (2, pt w.heap.size 0), (21, .bool ((decide (h < 1) || (kids.length : Int) != kidsI op) || !(ownB op num den mu hu du nm cnt md)))] (by kernel_rfl) (by kernel_rfl) (by kernel_rfl) L.sat.good hS (fun X => by kernel_rfl) (by kernel_rfl) fun w2 E2 hB2 => ?_
  clear hS
  replace B := B.trans (hB2.mono B.size)
  replace L := lies_below L hB2
  clear hB2
  refine at_run (cntG 90 (tailT tW1)) (tailT tW1) w2.heap.size _ [] tW2 [(1, .int .i64 h), (2, pt w.heap.size 0), (21, .bool ((decide (h < 1) || (kids.length : Int) != kidsI op) || !(ownB op num den mu hu du nm cnt md)))] w2.heap.size (memW w (exC op num den mu hu du nm cnt md A kids.length c)) (lies_sz L) (by kernel_rfl) fun w3 E3 L2 K => ?_
  replace B := below_own B K
  replace L := lies_any L2
  clear L2 K
  refine at_cond ((decide (h < 1) || (kids.length : Int) != kidsI op) || !(ownB op num den mu hu du nm cnt md)) (by kernel_rfl) (fun hb => ?_) (fun hb => ?_)
  · exact within_end B (v := false) (by unfold withinB; rw [hb]; rfl) (by kernel_rfl)
  have hW : withinB (.mk op num den mu hu du nm cnt md kids) h = withinAll kids (h - 1) := by unfold withinB; rw [hb]; rfl
  rw [hW]
  have hpos : 1 ≤ h := by
    rw [Bool.or_eq_false_iff, Bool.or_eq_false_iff, decide_eq_false_iff_not] at hb
    omega
  clear hW hb
  generalize hcs : exC op num den mu hu du nm cnt md A kids.length c = cs at L
  have hcs9 : cs[9]? = some (.slice A kids.length c) := by rw [← hcs]; rfl
  refine at_run (cntG 90 (elseT tW2)) (elseT tW2) w3.heap.size _ [] tW3 (envW w h 0) w3.heap.size (memW w cs) (lies_sz L) (by kernel_rfl) fun w4 E4 L2 K => ?_
  replace B := below_own B K
  replace L := lies_sz (lies_any L2)
  clear L2 K
  subst hcs
  refine at_loop (by kernel_rfl) (fun E u => ∃ E' i, E = updL E' (envW w h i) ∧ i ≤ kids.length ∧ (∀ j e, j < i → kids[j]? = some e → withinB e (h - 1) = true) ∧ Below w.heap.size w u ∧ Lies ((memW w (exC op num den mu hu du nm cnt md A kids.length c)).map (·.id)) u.heap.size u ⟨u.heap.size, memW w (exC op num den mu hu du nm cnt md A kids.length c), (0, 0), []⟩) (fun E _ => kids.length - (iv (E 5)).toNat) ⟨E4, 0, rfl, Nat.zero_le _, fun j e hj => (by omega), B, L⟩ ?_
  clear B L
  rintro E u ⟨E', i, rfl, hi, hall, B, L⟩ again
  refine at_run (cntG 90 (bodyT tW3)) (bodyT tW3) u.heap.size _ [(0, 9)] tW4 ((26, .bool (decide ((i : Int) < (kids.length : Int)))) :: envW w h i) u.heap.size (memW w (exC op num den mu hu du nm cnt md A kids.length c)) L (by kernel_rfl) fun u1 F1 L2 K => ?_
  replace B := below_own B K
  replace L := lies_sz (lies_any L2)
  clear L2 K
  refine at_cond (decide ((i : Int) < (kids.length : Int))) (by kernel_rfl) (fun hlt => ?_) (fun hlt => ?_)
  · have hlt' : i < kids.length := by simpa using hlt
    obtain ⟨kid, hkid⟩ : ∃ e, kids[i]? = some e := ⟨_, List.getElem?_eq_getElem hlt'⟩
    obtain ⟨r, hr, hxk⟩ := exsS_get hks hkid
    have hrne : ks ≠ [] := fun e => by rw [e] at hr; simp at hr
    rcases hrows with hrows | ⟨g, off, rfl, _, hg, hcell⟩
    · exact (hrne hrows).elim
    have hkh := heights_get hkid
    have hkt := tidies_get ht hkid
    have hxk' := hxk
    obtain ⟨op', num', den', mu', hu', du', nm', cnt', md', kids'⟩ := kid
    unfold exS at hxk'
    obtain ⟨A', c', ks', rfl, _, _⟩ := hxk'
    refine at_run (cntA 6 90 (thenT tW4)) (thenT tW4) u1.heap.size _ [] tW6 (envW w h i) u1.heap.size (memW w (exC op num den mu hu du nm cnt md (some ⟨g, off, none⟩) kids.length c)) L (by kernel_rfl) fun u2 F2 L2 K => ?_
    replace B := below_own B K
    replace L := lies_sz (lies_any L2)
    clear L2 K
    have hw1 : IntKind.i64.wrap (h - 1) = h - 1 := IntWalk.i64_in _ (by omega)
    have hS : ∀ sp ∈ [(⟨3, [(30, .slice (some ⟨g, off, none⟩) kids.length c), (31, .int .i64 i)], pt g (off + i * 10), true⟩ : Sp), ⟨7, [(33, .agg (exC op' num' den' mu' hu' du' nm' cnt' md' A' kids'.length c').toArray), (35, .int .i64 (IntKind.i64.wrap (h - 1)))], .bool (withinB (.mk op' num' den' mu' hu' du' nm' cnt' md' kids') (h - 1)), true⟩], SpecOk Tryz.prog 38 (Below u2.heap.size u2) ((curReg tW6).getD #[]) sp := by
      intro sp hsp
      simp only [List.mem_cons, List.not_mem_nil, or_false] at hsp
      rcases hsp with rfl | rfl
      · refine spec_op fun hc E y hy => ?_
        exact exec_index 89 (.tmp 30) (.tmp 31) (by kernel_rfl) (g := g) (off := off) (len := kids.length) (cap := c) (k := i) (sz := 10) (e := 91) (by kernel_rfl) (by kernel_rfl) hlt' (by kernel_rfl) (by kernel_rfl)
      · refine spec_call 131 [.tmp 33, .tmp 35] [.agg (exC op' num' den' mu' hu' du' nm' cnt' md' A' kids'.length c').toArray, .int .i64 (IntKind.i64.wrap (h - 1))] (by kernel_rfl) (by kernel_rfl) (fun E => by kernel_rfl) fun hc y hy => below_call hy ?_
        rw [hw1]
        have B2 := B.trans (hy.mono B.size)
        exact IH _ _ (h - 1) y (by omega) hkt (exS.keep B2.size (fun g' _ hg' => ⟨trivial, B2.block g' hg'⟩) _ _ hxk) (by omega) (by omega)
    refine at_ghost ((curReg tW6).getD #[]) ⟨memW w (exC op num den mu hu du nm cnt md (some ⟨g, off, none⟩) kids.length c) ++ [⟨g, off + i * 10, exC op' num' den' mu' hu' du' nm' cnt' md' A' kids'.length c', 91, false⟩], [(1, 0, 9), (4, 1, 0)], _⟩ ((37, .bool (!(withinB (.mk op' num' den' mu' hu' du' nm' cnt' md' kids') (h - 1)))) :: envW w h i) (by kernel_rfl) (by kernel_rfl) (by kernel_rfl) (fun e he => ?_) hS (fun X => by kernel_rfl) (by kernel_rfl) fun u3 F3 hB3 => ?_
    · rcases List.mem_append.1 he with he | he
      · exact L.sat.good e he
      · obtain rfl := List.mem_singleton.1 he
        refine ⟨Nat.lt_of_lt_of_le hg B.size, ?_⟩
        rw [if_neg (by simp)]
        intro j v hv
        rw [World.cell?_of_block (w := w) (B.block g hg)]
        exact hcell i _ hr j v hv
    clear hS
    replace B := B.trans (hB3.mono B.size)
    replace L := lies_below L hB3
    clear hB3
    refine at_run (cntG 90 (tailT tW6)) (tailT tW6) u3.heap.size _ [] tW7 ((37, .bool (!(withinB (.mk op' num' den' mu' hu' du' nm' cnt' md' kids') (h - 1)))) :: envW w h i) u3.heap.size (memW w (exC op num den mu hu du nm cnt md (some ⟨g, off, none⟩) kids.length c)) L (by kernel_rfl) fun u4 F4 L2 K => ?_
    replace B := below_own B K
    replace L := lies_sz (lies_any L2)
    clear L2 K
    refine at_cond (!(withinB (.mk op' num' den' mu' hu' du' nm' cnt' md' kids') (h - 1))) (by kernel_rfl) (fun hb => ?_) (fun hb => ?_)
    · exact within_end B (v := false) (withinAll_get hkid (by simpa using hb)) (by kernel_rfl)
    · refine at_run (cntG 90 (elseT tW7)) (elseT tW7) u4.heap.size _ [] (againT tW3) [(1, .int .i64 h), (2, pt w.heap.size 0), (5, .int .i64 (IntKind.i64.wrap ((i : Int) + 1)))] u4.heap.size (memW w (exC op num den mu hu du nm cnt md (some ⟨g, off, none⟩) kids.length c)) L (by kernel_rfl) fun u5 F5 L2 K => ?_
      replace B := below_own B K
      replace L := lies_sz (lies_any L2)
      clear L2 K
      have hw2 : IntKind.i64.wrap ((i : Int) + 1) = ((i + 1 : Nat) : Int) := by rw [IntWalk.i64_in _ (by omega)]; omega
      rw [hw2]
      refine again _ _ ⟨F5, i + 1, rfl, hlt', fun j e hj he => ?_, B, L⟩ ?_
      · rcases Nat.lt_succ_iff_lt_or_eq.1 hj with hj | rfl
        · exact hall j e hj he
        · rw [hkid] at he
          obtain rfl := Option.some.inj he
          simpa using hb
      · show kids.length - (((i + 1 : Nat) : Int)).toNat < kids.length - ((i : Nat) : Int).toNat
        omega
  · have hge : i = kids.length := by have : ¬ ((i : Int) < (kids.length : Int)) := by simpa using hlt
                                     omega
    subst hge
    exact within_end B (v := true) (withinAll_all fun j e he => hall j e (List.getElem?_eq_some_iff.1 he).1 he) (by kernel_rfl)
theorem rwithin_any : ∀ n, WithinSaid n
  | 0 => fun e cs h w hh => by cases e; unfold Ex.height at hh; omega
  | n + 1 => within_step n (rwithin_any n)
end
end Go.Proofs.YtpdbkbadjgellaaGreatDoor

namespace Go.Proofs.YtpdbkbadjgellaaGreatDoor
open Go.RowKit
section
set_option maxRecDepth 100000
theorem run_neq_ratio (w : World) (n d n' d' : Int) : (binOp .neq 33 (.agg #[.int .i64 n, .int .i64 d]) (.agg #[.int .i64 n', .int .i64 d'])).run Tryz.prog w = .ok (.bool (!(n == n' && d == d'))) w := by
  simp [go_sem]
  repeat' split
  all_goals simp_all
theorem run_neq_unit (w : World) (n d m n' d' m' : Int) : (binOp .neq 85 (.agg #[.int .i64 n, .int .i64 d, .int .i64 m]) (.agg #[.int .i64 n', .int .i64 d', .int .i64 m'])).run Tryz.prog w = .ok (.bool (!(n == n' && (d == d' && m == m')))) w := by
  simp [go_sem]
  repeat' split
  all_goals simp_all

noncomputable def codeVE : Code := Tryz.f116.body.getD .skip
noncomputable def tVE : List Item := advG [.code codeVE]
theorem rvalidExpr_any (e : Ex) (cs : List Value) (w : World) (ht : tidy e) (hx : exS (fun _ => True) w e cs) : Calls Tryz.prog 116 #[.agg cs.toArray] w fun en w' => en = .returned (.bool (withinB e 32)) ∧ Below w.heap.size w w' := by
  have hx' := hx
  obtain ⟨op, num, den, mu, hu, du, nm, cnt, md, kids⟩ := e
  unfold exS at hx'
  obtain ⟨A, c, ks, rfl, _, _⟩ := hx'
  generalize hr : withinB (.mk op num den mu hu du nm cnt md kids) 32 = r
  refine calls_at (args := [.agg (exC op num den mu hu du nm cnt md A kids.length c).toArray]) (fn := Tryz.f116) (c := codeVE) (n := 5) (by kernel_rfl) (by kernel_rfl) (by kernel_rfl) (by kernel_rfl) ?_
  refine at_run (cntG 90 [.code codeVE]) [.code codeVE] w.heap.size [] [(0, 0)] tVE [(3, .agg (exC op num den mu hu du nm cnt md A kids.length c).toArray)] (w.heap.size + 1) (memW w (exC op num den mu hu du nm cnt md A kids.length c)) (lies_nil w) (by kernel_rfl) fun w1 E1 L K => ?_
  have B := below_kept K
  refine at_call 131 [.tmp 3, .const (.int .i64 32)] (some 4) [.agg (exC op num den mu hu du nm cnt md A kids.length c).toArray, .int .i64 32] (by kernel_rfl) (by kernel_rfl) (by kernel_rfl) ?_
  refine (rwithin_any _ (.mk op num den mu hu du nm cnt md kids) _ 32 w1 (Nat.le_refl _) ht (exS.keep B.size (fun g' _ hg' => ⟨trivial, B.block g' hg'⟩) _ _ hx) (by decide) (by decide)).mono ?_
  rintro en w2 ⟨rfl, hB2⟩
  rw [hr]
  refine ⟨_, rfl, ?_⟩
  replace B := B.trans (hB2.mono B.size)
  refine at_end [] (.bool r) (fn := Tryz.f116) (by kernel_rfl) (lies_nil w2) (by kernel_rfl) fun w3 hK => ⟨rfl, ?_⟩
  exact B.trans ((below_kept hK).mono B.size)

noncomputable def codeSame : Code := Tryz.f114.body.getD .skip
noncomputable def tS1 : List Item := advG [.code codeSame]
noncomputable def tS2 : List Item := advG (tailT tS1)
noncomputable def tS3 : List Item := advG (elseT tS2)
noncomputable def tS4 : List Item := advG (bodyT tS3)
def memS (w : World) (cs ds : List Value) : List Ent := [⟨w.heap.size, 0, cs, 91, true⟩, ⟨w.heap.size + 1, 0, ds, 91, true⟩]
def diff0 (op num den : Int) : Bool := (op != 0) || !(num == 0 && den == 0)
def diffB (op num den mu hu du : Int) (nm : List UInt8) (cnt md : Int) (k : Nat) : Bool := ((((diff0 op num den || !(mu == 0 && (hu == 0 && du == 0))) || !(nmE nm)) || cnt != 0) || md != 0) || (k : Int) != 0
theorem below_two {w wx wy : World} {cs ds : List Value} (hB : Below w.heap.size w wx) (hK : Kept ((memS w cs ds).map (·.id)) wx.heap.size wx wy) : Below w.heap.size w wy :=
  ⟨hK.os.trans hB.os, hK.tape.trans hB.tape, hK.output.trans hB.output, Nat.le_trans hB.size hK.size, fun i hi => (hK.block i (by have := hB.size; omega) (by simp [memS]; omega)).trans (hB.block i hi)⟩
theorem rsame0_any (op num den mu hu du : Int) (nm : List UInt8) (cnt md : Int) (A : Option Addr) (k c : Nat) (w : World) : Calls Tryz.prog 114 #[.agg (exC op num den mu hu du nm cnt md A k c).toArray, .agg (exC 0 0 0 0 0 0 [] 0 0 none 0 0).toArray] w fun e w' => e = .returned (.bool (!(diffB op num den mu hu du nm cnt md k))) ∧ Below w.heap.size w w' := by
  generalize hr : (!(diffB op num den mu hu du nm cnt md k)) = r
  refine calls_at (args := [.agg (exC op num den mu hu du nm cnt md A k c).toArray, .agg (exC 0 0 0 0 0 0 [] 0 0 none 0 0).toArray]) (fn := Tryz.f114) (c := codeSame) (n := 74) (by kernel_rfl) (by kernel_rfl) (by kernel_rfl) (by kernel_rfl) ?_
  refine at_run (cntG 90 [.code codeSame]) [.code codeSame] w.heap.size [] [] tS1 [(2, pt w.heap.size 0), (3, pt (w.heap.size + 1) 0)] (w.heap.size + 2) (memS w (exC op num den mu hu du nm cnt md A k c) (exC 0 0 0 0 0 0 [] 0 0 none 0 0)) (lies_nil w) (by kernel_rfl) fun w1 E1 L K => ?_
  have B := below_kept K
  replace L := lies_any L
  clear K
  have hS : ∀ sp ∈ [(⟨10, [(13, .agg #[.int .i64 num, .int .i64 den]), (15, .agg #[.int .i64 0, .int .i64 0])], .bool (!(num == 0 && den == 0)), !(op != 0) && true⟩ : Sp), ⟨17, [(20, .agg #[.int .i64 mu, .int .i64 hu, .int .i64 du]), (22, .agg #[.int .i64 0, .int .i64 0, .int .i64 0])], .bool (!(mu == 0 && (hu == 0 && du == 0))), !(diff0 op num den) && true⟩], SpecOk Tryz.prog 74 (Below w1.heap.size w1) ((curReg tS1).getD #[]) sp := by
    intro sp hsp
    simp only [List.mem_cons, List.not_mem_nil, or_false] at hsp
    rcases hsp with rfl | rfl
    · refine spec_op fun hc E y hy => ?_
      have h1 : (execOp (ovr [(13, .agg #[.int .i64 num, .int .i64 den]), (15, .agg #[.int .i64 0, .int .i64 0])] (evE 74 E)) (((curReg tS1).getD #[]).getD 10 default)).run Tryz.prog y = (binOp .neq 33 (.agg #[.int .i64 num, .int .i64 den]) (.agg #[.int .i64 0, .int .i64 0]) >>= fun v => (pure (.value v) : Sem Next)).run Tryz.prog y := by kernel_rfl
      rw [h1, Sem.run_bind, run_neq_ratio]
      rfl
    · refine spec_op fun hc E y hy => ?_
      have h1 : (execOp (ovr [(20, .agg #[.int .i64 mu, .int .i64 hu, .int .i64 du]), (22, .agg #[.int .i64 0, .int .i64 0, .int .i64 0])] (evE 74 E)) (((curReg tS1).getD #[]).getD 17 default)).run Tryz.prog y = (binOp .neq 85 (.agg #[.int .i64 mu, .int .i64 hu, .int .i64 du]) (.agg #[.int .i64 0, .int .i64 0, .int .i64 0]) >>= fun v => (pure (.value v) : Sem Next)).run Tryz.prog y := by kernel_rfl
      rw [h1, Sem.run_bind, run_neq_unit]
      rfl
  refine at_ghost ((curReg tS1).getD #[]) ⟨memS w (exC op num den mu hu du nm cnt md A k c) (exC 0 0 0 0 0 0 [] 0 0 none 0 0), [(1, 0, 0), (3, 1, 0), (7, 0, 1), (9, 1, 1), (14, 0, 3), (16, 1, 3), (21, 0, 6), (23, 1, 6), (28, 0, 7), (30, 1, 7), (35, 0, 8), (37, 1, 8), (42, 0, 9), (45, 1, 9)], _⟩ [(2, pt w.heap.size 0), (3, pt (w.heap.size + 1) 0), (54, .bool (diffB op num den mu hu du nm cnt md k))] (by kernel_rfl) (by kernel_rfl) (by kernel_rfl) L.sat.good hS (fun X => by kernel_rfl) (by kernel_rfl) fun w2 E2 hB2 => ?_
  clear hS
  replace B := B.trans (hB2.mono B.size)
  replace L := lies_below L hB2
  clear hB2
  refine at_run (cntG 90 (tailT tS1)) (tailT tS1) w2.heap.size _ [] tS2 [(2, pt w.heap.size 0), (54, .bool (diffB op num den mu hu du nm cnt md k))] w2.heap.size (memS w (exC op num den mu hu du nm cnt md A k c) (exC 0 0 0 0 0 0 [] 0 0 none 0 0)) L (by kernel_rfl) fun w3 E3 L2 K => ?_
  replace B := below_two B K
  replace L := lies_sz (lies_any L2)
  clear L2 K
  refine at_cond (diffB op num den mu hu du nm cnt md k) (by kernel_rfl) (fun hb => ?_) (fun hb => ?_)
  · obtain rfl : false = r := by rw [← hr, hb]; rfl
    refine at_end [] (.bool false) (fn := Tryz.f114) (by kernel_rfl) (lies_nil w3) (by kernel_rfl) fun w4 hK => ⟨rfl, ?_⟩
    exact B.trans ((below_kept hK).mono B.size)
  · obtain rfl : true = r := by rw [← hr, hb]; rfl
    have hk : k = 0 := by
      unfold diffB at hb
      rw [Bool.or_eq_false_iff] at hb
      simpa using hb.2
    subst hk
    refine at_run (cntG 90 (elseT tS2)) (elseT tS2) w3.heap.size _ [] tS3 [(2, pt w.heap.size 0), (5, .int .i64 0)] w3.heap.size (memS w (exC op num den mu hu du nm cnt md A 0 c) (exC 0 0 0 0 0 0 [] 0 0 none 0 0)) L (by kernel_rfl) fun w4 E4 L2 K => ?_
    replace B := below_two B K
    replace L := lies_sz (lies_any L2)
    clear L2 K
    refine at_loop (by kernel_rfl) (fun E u => (∃ E', E = updL E' [(2, pt w.heap.size 0), (5, .int .i64 0)]) ∧ Below w.heap.size w u ∧ Lies ((memS w (exC op num den mu hu du nm cnt md A 0 c) (exC 0 0 0 0 0 0 [] 0 0 none 0 0)).map (·.id)) u.heap.size u ⟨u.heap.size, memS w (exC op num den mu hu du nm cnt md A 0 c) (exC 0 0 0 0 0 0 [] 0 0 none 0 0), (0, 0), []⟩) (fun _ _ => 0) ⟨⟨E4, rfl⟩, B, L⟩ ?_
    clear B L
    rintro E u ⟨⟨E', rfl⟩, B, L⟩ again
    refine at_run (cntG 90 (bodyT tS3)) (bodyT tS3) u.heap.size _ [(0, 9)] tS4 [(2, pt w.heap.size 0), (59, .bool false)] u.heap.size (memS w (exC op num den mu hu du nm cnt md A 0 c) (exC 0 0 0 0 0 0 [] 0 0 none 0 0)) L (by kernel_rfl) fun u1 F1 L2 K => ?_
    replace B := below_two B K
    clear L2 K
    refine at_cond false (by kernel_rfl) (fun hlt => (by cases hlt)) (fun _ => ?_)
    refine at_end [] (.bool true) (fn := Tryz.f114) (by kernel_rfl) (lies_nil u1) (by kernel_rfl) fun w5 hK => ⟨rfl, ?_⟩
    exact B.trans ((below_kept hK).mono B.size)
end
end Go.Proofs.YtpdbkbadjgellaaGreatDoor

namespace Go.Proofs.YtpdbkbadjgellaaGreatDoor
open Go.RowKit
section
set_option maxRecDepth 100000
def entB1 (k : Int) : Bool := decide (k < 0) || decide (1000000 < k)
def entB2 (k n d : Int) : Bool := entB1 k || !(isDecimalB n d)
def entBad (i : Nat) (e p : Int × Int × Int) : Bool := entB2 e.1 e.2.1 e.2.2 || (decide (0 < (i : Int)) && decide (e.1 ≤ p.1))
def entsBad (es : List (Int × Int × Int)) (i : Nat) : Bool := entBad i (es.getD i (0, 0, 0)) (es.getD (i - 1) (0, 0, 0))
def lenBad (k : Nat) : Bool := decide ((k : Int) < 1) || decide (64 < (k : Int))
def validEntB (es : List (Int × Int × Int)) : Bool := !(lenBad es.length) && (List.range es.length).all (fun i => !(entsBad es i))
noncomputable def codeEnt : Code := Tryz.f115.body.getD .skip
noncomputable def tEn1 : List Item := advG [.code codeEnt]
noncomputable def tEn2 : List Item := advG (tailT tEn1)
noncomputable def tEn3 : List Item := advG (elseT tEn2)
noncomputable def tEn4 : List Item := advG (bodyT tEn3)
noncomputable def tEn6 : List Item := advG (thenT tEn4)
noncomputable def tEn7 : List Item := advG (tailT tEn6)
theorem ent_end {w wx : World} {E : Nat → Value} {todo : List Item} {r v : Bool} (hB : Below w.heap.size w wx) (hv : r = v)
    (he : (fun a : St => (isRet a.todo, a.ms.eqs, (lrun Tryz.prog (resultsE Tryz.f115 59 a.env) ⟨0, [], (0, 0), []⟩).map (fun r => (r.1, r.2.eqs)))) (adv Tryz.prog 59 (cntG 90 todo) ⟨todo, E, ⟨wx.heap.size, [], (0, 0), []⟩, []⟩) = (true, [], some (.bool v, []))) :
    At Tryz.prog 115 (fun en w' => en = .returned (.bool r) ∧ Below w.heap.size w w') todo (Fr 59 E) wx := by
  refine at_end [] (.bool v) (fn := Tryz.f115) (by kernel_rfl) (lies_nil wx) he fun w3 hK => ⟨by rw [hv], ?_⟩
  exact hB.trans ((below_kept hK).mono hB.size)
def envEn (A : Option Addr) (k c i : Nat) : List (Nat × Value) := [(0, .slice A k c), (3, .int .i64 i)]
theorem rvalidEntries_any (es : List (Int × Int × Int)) (A : Option Addr) (c : Nat) (w : World) (hrows : rowsS (fun _ => True) w 3 A (es.map entCells)) : Calls Tryz.prog 115 #[.slice A es.length c] w fun e w' => e = .returned (.bool (validEntB es)) ∧ Below w.heap.size w w' := by
  refine calls_at (args := [.slice A es.length c]) (fn := Tryz.f115) (c := codeEnt) (n := 59) (by kernel_rfl) (by kernel_rfl) (by kernel_rfl) (by kernel_rfl) ?_
  refine at_run (cntG 90 [.code codeEnt]) [.code codeEnt] w.heap.size [] [] tEn1 [(0, .slice A es.length c)] w.heap.size [] (lies_nil w) (by kernel_rfl) fun w1 E1 L K => ?_
  have B := below_kept K
  clear K L
  refine at_ghost ((curReg tEn1).getD #[]) ⟨[], [], []⟩ [(0, .slice A es.length c), (11, .bool (lenBad es.length))] (by kernel_rfl) (by kernel_rfl) (by kernel_rfl) (fun e he => (by cases he)) (fun e he => (by cases he)) (fun X => by kernel_rfl) (by kernel_rfl) fun w2 E2 hB2 => ?_
  replace B := B.trans (hB2.mono B.size)
  clear hB2
  refine at_run (cntG 90 (tailT tEn1)) (tailT tEn1) w2.heap.size [] [] tEn2 [(0, .slice A es.length c), (11, .bool (lenBad es.length))] w2.heap.size [] (lies_nil w2) (by kernel_rfl) fun w3 E3 _ K => ?_
  replace B := B.trans ((below_kept K).mono B.size)
  clear K
  refine at_cond (lenBad es.length) (by kernel_rfl) (fun hb => ?_) (fun hb => ?_)
  · exact ent_end B (v := false) (by unfold validEntB; rw [hb]; rfl) (by kernel_rfl)
  have hW : validEntB es = (List.range es.length).all (fun i => !(entsBad es i)) := by unfold validEntB; rw [hb]; rfl
  have hlen : es.length ≤ 64 := by
    unfold lenBad at hb
    rw [Bool.or_eq_false_iff, decide_eq_false_iff_not, decide_eq_false_iff_not] at hb
    omega
  rw [hW]
  clear hW hb
  refine at_run (cntG 90 (elseT tEn2)) (elseT tEn2) w3.heap.size [] [] tEn3 (envEn A es.length c 0) w3.heap.size [] (lies_nil w3) (by kernel_rfl) fun w4 E4 _ K => ?_
  replace B := B.trans ((below_kept K).mono B.size)
  clear K
  refine at_loop (by kernel_rfl) (fun E u => ∃ E' i, E = updL E' (envEn A es.length c i) ∧ i ≤ es.length ∧ (∀ j, j < i → entsBad es j = false) ∧ Below w.heap.size w u) (fun E _ => es.length - (iv (E 3)).toNat) ⟨E4, 0, rfl, Nat.zero_le _, fun j hj => (by omega), B⟩ ?_
  clear B
  rintro E u ⟨E', i, rfl, hi, hall, B⟩ again
  refine at_run (cntG 90 (bodyT tEn3)) (bodyT tEn3) u.heap.size [] [] tEn4 ((15, .bool (decide ((i : Int) < (es.length : Int)))) :: envEn A es.length c i) u.heap.size [] (lies_nil u) (by kernel_rfl) fun u1 F1 _ K => ?_
  replace B := B.trans ((below_kept K).mono B.size)
  clear K
  refine at_cond (decide ((i : Int) < (es.length : Int))) (by kernel_rfl) (fun hlt => ?_) (fun hlt => ?_)
  · have hlt' : i < es.length := by simpa using hlt
    obtain ⟨e, he⟩ : ∃ e, es[i]? = some e := ⟨_, List.getElem?_eq_getElem hlt'⟩
    obtain ⟨p, hp⟩ : ∃ e, es[i - 1]? = some e := ⟨_, List.getElem?_eq_getElem (show i - 1 < es.length by omega)⟩
    have hbad : entsBad es i = entBad i e p := by
      unfold entsBad
      rw [List.getD_eq_getElem?_getD, List.getD_eq_getElem?_getD, he, hp]
      rfl
    rcases hrows with hrows | ⟨g, off, rfl, _, hg, hcell⟩
    · rw [List.map_eq_nil_iff] at hrows
      rw [hrows] at he
      simp at he
    have hc1 := hcell i (entCells e) (by rw [List.getElem?_map, he]; rfl)
    have hc2 := hcell (i - 1) (entCells p) (by rw [List.getElem?_map, hp]; rfl)
    obtain ⟨k, n, d⟩ := e
    obtain ⟨k', n', d'⟩ := p
    refine at_run (cntG 90 (thenT tEn4)) (thenT tEn4) u1.heap.size [] [] tEn6 (envEn (some ⟨g, off, none⟩) es.length c i) u1.heap.size [] (lies_nil u1) (by kernel_rfl) fun u2 F2 _ K => ?_
    replace B := B.trans ((below_kept K).mono B.size)
    clear K
    have hS : ∀ sp ∈ [(⟨2, [(18, .slice (some ⟨g, off, none⟩) es.length c), (19, .int .i64 i)], pt g (off + i * 3), true⟩ : Sp), ⟨9, [(25, .slice (some ⟨g, off, none⟩) es.length c), (26, .int .i64 i)], pt g (off + i * 3), !(decide (k < 0)) && true⟩, ⟨17, [(33, .slice (some ⟨g, off, none⟩) es.length c), (34, .int .i64 i)], pt g (off + i * 3), !(entB1 k) && true⟩, ⟨20, [(37, .agg #[.int .i64 n, .int .i64 d])], .bool (isDecimalB n d), !(entB1 k) && true⟩, ⟨29, [(45, .slice (some ⟨g, off, none⟩) es.length c), (46, .int .i64 i)], pt g (off + i * 3), decide (0 < (i : Int)) && (!(entB2 k n d) && true)⟩, ⟨35, [(50, .slice (some ⟨g, off, none⟩) es.length c), (52, .int .i64 (IntKind.i64.wrap ((i : Int) - 1)))], pt g (off + (i - 1) * 3), decide (0 < (i : Int)) && (!(entB2 k n d) && true)⟩], SpecOk Tryz.prog 59 (Below u2.heap.size u2) ((curReg tEn6).getD #[]) sp := by
      intro sp hsp
      simp only [List.mem_cons, List.not_mem_nil, or_false] at hsp
      rcases hsp with rfl | rfl | rfl | rfl | rfl | rfl
      · exact spec_op fun hc E y hy => exec_index 88 (.tmp 18) (.tmp 19) (by kernel_rfl) (g := g) (off := off) (len := es.length) (cap := c) (k := i) (sz := 3) (e := 96) (by kernel_rfl) (by kernel_rfl) hlt' (by kernel_rfl) (by kernel_rfl)
      · exact spec_op fun hc E y hy => exec_index 88 (.tmp 25) (.tmp 26) (by kernel_rfl) (g := g) (off := off) (len := es.length) (cap := c) (k := i) (sz := 3) (e := 96) (by kernel_rfl) (by kernel_rfl) hlt' (by kernel_rfl) (by kernel_rfl)
      · exact spec_op fun hc E y hy => exec_index 88 (.tmp 33) (.tmp 34) (by kernel_rfl) (g := g) (off := off) (len := es.length) (cap := c) (k := i) (sz := 3) (e := 96) (by kernel_rfl) (by kernel_rfl) hlt' (by kernel_rfl) (by kernel_rfl)
      · exact spec_call 38 [.tmp 37] [.agg #[.int .i64 n, .int .i64 d]] (by kernel_rfl) (by kernel_rfl) (fun E => by kernel_rfl) fun hc y hy => below_call hy (risDecimal_any n d y)
      · exact spec_op fun hc E y hy => exec_index 88 (.tmp 45) (.tmp 46) (by kernel_rfl) (g := g) (off := off) (len := es.length) (cap := c) (k := i) (sz := 3) (e := 96) (by kernel_rfl) (by kernel_rfl) hlt' (by kernel_rfl) (by kernel_rfl)
      · refine spec_op fun hc E y hy => ?_
        simp only [Bool.and_eq_true, decide_eq_true_eq] at hc
        have hw : IntKind.i64.wrap ((i : Int) - 1) = ((i - 1 : Nat) : Int) := by rw [IntWalk.i64_in _ (by omega)]; omega
        exact exec_index 88 (.tmp 50) (.tmp 52) (by kernel_rfl) (g := g) (off := off) (len := es.length) (cap := c) (k := i - 1) (sz := 3) (e := 96) (by kernel_rfl) (by rw [← hw]; kernel_rfl) (by omega) (by kernel_rfl) (by kernel_rfl)
    refine at_ghost ((curReg tEn6).getD #[]) ⟨[⟨g, off + i * 3, entCells (k, n, d), 96, false⟩, ⟨g, off + (i - 1) * 3, entCells (k', n', d'), 96, false⟩], [(4, 0, 0), (11, 0, 0), (19, 0, 1), (31, 0, 0), (37, 1, 0)], _⟩ ((58, .bool (entBad i (k, n, d) (k', n', d'))) :: envEn (some ⟨g, off, none⟩) es.length c i) (by kernel_rfl) (by kernel_rfl) (by kernel_rfl) (fun e he => ?_) hS (fun X => by kernel_rfl) (by kernel_rfl) fun u3 F3 hB3 => ?_
    · simp only [List.mem_cons, List.not_mem_nil, or_false] at he
      rcases he with rfl | rfl
      · refine ⟨Nat.lt_of_lt_of_le hg B.size, ?_⟩
        rw [if_neg (by simp)]
        intro j v hv
        rw [World.cell?_of_block (w := w) (B.block g hg)]
        exact hc1 j v hv
      · refine ⟨Nat.lt_of_lt_of_le hg B.size, ?_⟩
        rw [if_neg (by simp)]
        intro j v hv
        rw [World.cell?_of_block (w := w) (B.block g hg)]
        exact hc2 j v hv
    clear hS
    replace B := B.trans (hB3.mono B.size)
    clear hB3
    refine at_run (cntG 90 (tailT tEn6)) (tailT tEn6) u3.heap.size [] [] tEn7 ((58, .bool (entBad i (k, n, d) (k', n', d'))) :: envEn (some ⟨g, off, none⟩) es.length c i) u3.heap.size [] (lies_nil u3) (by kernel_rfl) fun u4 F4 _ K => ?_
    replace B := B.trans ((below_kept K).mono B.size)
    clear K
    refine at_cond (entBad i (k, n, d) (k', n', d')) (by kernel_rfl) (fun hb => ?_) (fun hb => ?_)
    · refine ent_end B (v := false) ?_ (by kernel_rfl)
      rw [← Bool.not_eq_true, List.all_eq_true]
      intro hh
      have := hh i (List.mem_range.2 hlt')
      rw [hbad, hb] at this
      cases this
    · refine at_run (cntG 90 (elseT tEn7)) (elseT tEn7) u4.heap.size [] [] (againT tEn3) [(0, .slice (some ⟨g, off, none⟩) es.length c), (3, .int .i64 (IntKind.i64.wrap ((i : Int) + 1)))] u4.heap.size [] (lies_nil u4) (by kernel_rfl) fun u5 F5 _ K => ?_
      replace B := B.trans ((below_kept K).mono B.size)
      clear K
      have hw2 : IntKind.i64.wrap ((i : Int) + 1) = ((i + 1 : Nat) : Int) := by rw [IntWalk.i64_in _ (by omega)]; omega
      rw [hw2]
      refine again _ _ ⟨F5, i + 1, rfl, hlt', fun j hj => ?_, B⟩ ?_
      · rcases Nat.lt_succ_iff_lt_or_eq.1 hj with hj | rfl
        · exact hall j hj
        · rw [hbad]; exact hb
      · show es.length - (((i + 1 : Nat) : Int)).toNat < es.length - ((i : Nat) : Int).toNat
        omega
  · have hge : i = es.length := by have : ¬ ((i : Int) < (es.length : Int)) := by simpa using hlt
                                   omega
    subst hge
    refine ent_end B (v := true) ?_ (by kernel_rfl)
    rw [List.all_eq_true]
    intro j hj
    rw [hall j (List.mem_range.1 hj)]
    rfl
end
end Go.Proofs.YtpdbkbadjgellaaGreatDoor

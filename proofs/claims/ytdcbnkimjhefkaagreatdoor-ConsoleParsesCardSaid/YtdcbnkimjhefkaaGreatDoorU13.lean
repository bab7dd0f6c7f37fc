/-
 Regions whose order is drawn: every order does what the plan did.
 Closed runs: what a run of the machine says of calls in worlds.
 Functions that are told by a contract: strings.Builder's copyCheck and String, slices.Sorted over the keys of a map.
-/
import Derived.Test.YtdcbnkimjhefkaaGreatDoorU12
namespace Go.Proofs.YtdcbnkimjhefkaaGreatDoor
section
variable {P : Program} {n : Nat} {ops : Array Oper} {A : List Nat} {σ0 σ : Ren} {H0 : AH} {w0 : World} {X : Nat → Bool} {a : Act} {w : World} {c : Env → AH → Option Ans} {x : Ans}
theorem RunR.hist_keep : ∀ {l : List Rc} {env : Env} {H : AH} {hist : List (Nat × AH)}, RunR P n ops A c x l env H hist → ∀ p ∈ hist, ∀ r ∈ l, p ∈ r.hist
 | [], _, _, _, _, _, _, r, hr => by cases hr
 | q :: l, env, H, hist, h, p, hp, r, hr => by
  obtain ⟨h1, h2, h3, h4, h5⟩ := h
  rcases List.mem_cons.1 hr with rfl | hr
  ·rw [h3]; exact hp
  ·refine RunR.hist_keep h5 p ?_ r hr
   split
   ·simp [hp]
   ·exact hp
theorem RunR.hist_mem {la lb : List Rc} {q r : Rc} {env : Env} {H : AH} {hist : List (Nat × AH)} (h : RunR P n ops A c x (la ++ q :: lb) env H hist) (hw : isW P q.o = true) (hr : r ∈ lb) : (q.i, q.H) ∈ r.hist := by
 obtain ⟨_, hist', h2⟩ := RunR.at h
 obtain ⟨g1, g2, g3, g4, g5⟩ := h2
 refine RunR.hist_keep g5 _ ?_ r hr
 rw [if_pos hw]
 simp
theorem first_writer (P : Program) : ∀ l : List Rc, (∀ q ∈ l, isW P q.o = false) ∨ ∃ la q lb, l = la ++ q :: lb ∧ (∀ p ∈ la, isW P p.o = false) ∧ isW P q.o = true
 | [] => .inl fun q hq => by cases hq
 | r :: l => by
  cases hw : isW P r.o with
  | true => exact .inr ⟨[], r, l, rfl, (fun p hp => by cases hp), hw⟩
  | false =>
   rcases first_writer P l with h | ⟨la, q, lb, h1, h2, h3⟩
   ·refine .inl fun q hq => ?_
    rcases List.mem_cons.1 hq with rfl | hq
    ·exact hw
    ·exact h q hq
   ·refine .inr ⟨r :: la, q, lb, by rw [h1]; rfl, fun p hp => ?_, h3⟩
    rcases List.mem_cons.1 hp with rfl | hp
    ·exact hw
    ·exact h2 p hp
structure DSt (P : Program) (n : Nat) (ops : Array Oper) (A : List Nat) (c : Env → AH → Option Ans) (x : Ans) (σ0 : Ren) (H0 : AH) (w0 : World) (listed : Array Bool) (l : List Rc) (X : Nat → Bool) (env : Env) (H : AH) (hist : List (Nat × AH)) (σ : Ren) (a : Act) (w : World) : Prop where
 run : RunR P n ops A c x l env H hist
 ok : AH.ok P H
 inv : DInv P n σ X l env H a w
 fwd : DFwd P σ0 H0 w0 σ X l H w
 nx : H0.next ≤ H.next
 size : listed.size = ops.size
 lx : ∀ r ∈ l, listed.getD r.i true = X r.i
 ll : ∀ i, i < ops.size → (∀ r ∈ l, r.i ≠ i) → listed.getD i true = true
 closed : Closed ops (fun i => listed.getD i false = true)
 pair : ∀ l1 r l2, l = l1 ++ r :: l2 → ∀ q ∈ l1, PairOk P ops A q.i r.i q.o r.o ∧ q.i ≠ r.i
theorem getD_tf {listed : Array Bool} {i : Nat} (h : i < listed.size) : listed.getD i true = listed.getD i false := by
 simp [h]
theorem DSt.pass {listed : Array Bool} : ∀ {l1 l2 : List Rc} {env : Env} {H : AH} {hist : List (Nat × AH)}, DSt P n ops A c x σ0 H0 w0 listed (l1 ++ l2) X env H hist σ a w → (∀ q ∈ l1, X q.i = true) → ∃ env' H' hist', DSt P n ops A c x σ0 H0 w0 listed l2 X env' H' hist' σ a w
 | [], l2, env, H, hist, h, _ => ⟨env, H, hist, h⟩
 | r :: l1, l2, env, H, hist, h, hx => by
  have hrun := h.run
  obtain ⟨e1, e2, e3, hr, hrest⟩ := hrun
  have hxr := hx r (by simp)
  have hwr : isW P r.o = false := h.inv.noW r (by simp) hxr
  have hnd : ∀ q ∈ l1 ++ l2, q.i ≠ r.i := fun q hq e => by
   obtain ⟨la, lb, e'⟩ := List.append_of_mem hq
   have := (h.pair (r :: la) q lb (by rw [List.cons_append, e']; rfl) r (by simp)).2
   exact this e.symm
  have hinv := h.inv
  rw [← e1, ← e2] at hinv
  have hfwd := h.fwd
  rw [← e2] at hfwd
  refine DSt.pass (l1 := l1) (l2 := l2) ⟨hrest, hr.ok', hinv.absorb hr hxr hnd, hfwd.absorb hr hxr hwr, Nat.le_trans h.nx (by rw [← e2]; exact hr.next), h.size, fun q hq => h.lx q (List.mem_cons_of_mem _ hq), fun i hi hne => ?_, h.closed, fun la q lb e => h.pair (r :: la) q lb (by rw [List.cons_append, e]; rfl) |> fun k p hp => k p (List.mem_cons_of_mem _ hp)⟩ (fun q hq => hx q (List.mem_cons_of_mem _ hq))
  by_cases e : r.i = i
  ·rw [← e, h.lx r (by simp)]; exact hxr
  ·refine h.ll i hi fun q hq => ?_
   rcases List.mem_cons.1 hq with rfl | hq
   ·exact e
   ·exact hne q hq
theorem DSt.listed_iff {listed : Array Bool} {l : List Rc} {env : Env} {H : AH} {hist : List (Nat × AH)} (h : DSt P n ops A c x σ0 H0 w0 listed l X env H hist σ a w) {r : Rc} (hr : r ∈ l) (hi : r.i < ops.size) : listed.getD r.i false = X r.i := by
 rw [← getD_tf (by rw [h.size]; exact hi)]
 exact h.lx r hr
theorem set_getD {listed : Array Bool} {i : Nat} (hi : i < listed.size) (j : Nat) (d : Bool) : (listed.setIfInBounds i true).getD j d = if j = i then true else listed.getD j d := by
 by_cases e : j = i
 ·subst e; simp [hi]
 ·rw [if_neg e, getD_set_ne d (Ne.symm e)]
theorem rec_lt {l : List Rc} {env : Env} {H : AH} {hist : List (Nat × AH)} (hR : RunR P n ops A c x l env H hist) {r : Rc} (hr : r ∈ l) : ops[r.i]? = some r.o ∧ r.i < ops.size := by
 obtain ⟨la, lb, rfl⟩ := List.append_of_mem hr
 have := (RunR.at hR).1.op
 exact ⟨this, (Array.getElem?_eq_some_iff.1 this).1⟩
theorem closed_set {listed : Array Bool} {i : Nat} {o : Oper} (hi : i < listed.size) (ho : ops[i]? = some o) (hc : Closed ops (fun i => listed.getD i false = true)) (hr : ∀ e ∈ o.after, Region.binds .any e = true → listed.getD e.on false = true) : Closed ops (fun j => (listed.setIfInBounds i true).getD j false = true) := by
 intro j q hq hj e he hb
 rw [set_getD hi] at hj
 apply getD_set_true
 split at hj
 ·rename_i e1
  subst e1
  rw [ho] at hq
  obtain rfl := Option.some.inj hq
  exact hr e he hb
 ·exact hc j q hq hj e he hb
theorem draw_any {Q : Exit → Act → World → Prop} (hA : ancOk ops A = true) (hE : edgesOk ops = true) (s0 : Sim P σ0 H0.get w0)
  (hc : ∀ env' H' σ' a' w', c env' H' = some x → AH.ok P H' → H0.next ≤ H'.next → Sim P σ' H'.get w' → Fwd σ0 H0.get w0 σ' H'.get w' → ActR σ' (Hp.dom H'.get) env' n a' → Q .normal a' w') :
  ∀ (fuel : Nat) (listed : Array Bool) (l : List Rc) (X : Nat → Bool) (env : Env) (H : AH) (hist : List (Nat × AH)) (σ : Ren) (a : Act) (w : World), DSt P n ops A c x σ0 H0 w0 listed l X env H hist σ a w → (l.filter fun r => !(X r.i)).length ≤ fuel → wpAny P .any ops Q fuel listed a w := by
 have done : ∀ (listed : Array Bool) (l : List Rc) (X : Nat → Bool) (env : Env) (H : AH) (hist : List (Nat × AH)) (σ : Ren) (a : Act) (w : World), DSt P n ops A c x σ0 H0 w0 listed l X env H hist σ a w → Region.ready .any ops listed = [] → Q .normal a w := by
  intro listed l X env H hist σ a w h hr
  have hall := all_done hE hr
  have hx : ∀ q ∈ l, X q.i = true := fun q hq => by
   rw [← h.lx q hq]
   exact hall q.i (rec_lt h.run hq).2
  obtain ⟨env', H', hist', h'⟩ := DSt.pass (l1 := l) (l2 := []) (by simpa using h) hx
  exact hc env' H' σ a w h'.run h'.ok h'.nx h'.inv.sim h'.fwd.fwd ⟨h'.inv.defers, h'.inv.size, fun t v hv => h'.inv.slot t v (fun q hq => by cases hq) hv⟩
 have ready_rec : ∀ (listed : Array Bool) (l : List Rc) (X : Nat → Bool) (env : Env) (H : AH) (hist : List (Nat × AH)) (σ : Ren) (a : Act) (w : World), DSt P n ops A c x σ0 H0 w0 listed l X env H hist σ a w → ∀ i ∈ Region.ready .any ops listed, ∃ r ∈ l, r.i = i ∧ X r.i = false ∧ ops[r.i]? = some r.o ∧ r.i < ops.size ∧ (∀ e ∈ r.o.after, Region.binds .any e = true → listed.getD e.on false = true) := by
  intro listed l X env H hist σ a w h i hi
  rw [mem_ready] at hi
  obtain ⟨h0, o, ho, hall⟩ := hi
  have hlt : i < ops.size := (Array.getElem?_eq_some_iff.1 ho).1
  have hex : ∃ r ∈ l, r.i = i := by
   apply Classical.byContradiction
   intro hn
   have := h.ll i hlt fun r hr e => hn ⟨r, hr, e⟩
   rw [this] at h0
   cases h0
  obtain ⟨r, hr, rfl⟩ := hex
  have hop := rec_lt h.run hr
  have : r.o = o := by
   have := hop.1
   rw [ho] at this
   exact (Option.some.inj this).symm
  subst this
  exact ⟨r, hr, rfl, by rw [← h.lx r hr]; exact h0, hop.1, hop.2, hall⟩
 intro fuel
 induction fuel with
 | zero =>
  intro listed l X env H hist σ a w h hf
  have hr : Region.ready .any ops listed = [] := by
   cases hrd : Region.ready .any ops listed with
   | nil => rfl
   | cons i rs =>
    obtain ⟨r, hr, _, hx, _⟩ := ready_rec listed l X env H hist σ a w h i (by rw [hrd]; simp)
    have hm : r ∈ l.filter fun r => !(X r.i) := List.mem_filter.2 ⟨hr, by simp [hx]⟩
    have := List.length_pos_of_mem hm
    omega
  exact ⟨hr, done listed l X env H hist σ a w h hr⟩
 | succ fuel ih =>
  intro listed l X env H hist σ a w h hf
  refine ⟨done listed l X env H hist σ a w h, fun i hi => ?_⟩
  obtain ⟨r, hr, rfl, hx, hop, hlt, hedge⟩ := ready_rec listed l X env H hist σ a w h i hi
  have hanc : ∀ q ∈ l, hasBit ((nth A r.i).getD 0) q.i = true → X q.i = true := fun q hq hb => by
   have hql := (rec_lt h.run hq).2
   rw [← h.listed_iff hq hql]
   exact anc_done hA h.closed r.i r.o hop hedge q.i hql hb
  have hls : r.i < listed.size := by rw [h.size]; exact hlt
  obtain ⟨l1, l2, rfl⟩ := List.append_of_mem hr
  have hpair1 := h.pair l1 r l2 rfl
  have hpair2 : ∀ q ∈ l2, PairOk P ops A r.i q.i r.o q.o ∧ r.i ≠ q.i := fun q hq => by
   obtain ⟨la, lb, rfl⟩ := List.append_of_mem hq
   exact h.pair (l1 ++ r :: la) q lb (by simp) r (by simp)
  have hnd : ∀ q ∈ l1 ++ l2, q.i ≠ r.i := fun q hq => by
   rcases List.mem_append.1 hq with hq | hq
   ·exact (hpair1 q hq).2
   ·exact fun e => (hpair2 q hq).2 e.symm
  have hdd : ∀ q ∈ l1 ++ l2, ∀ t, q.o.dst = some t → r.o.dst ≠ some t := fun q hq t ht => by
   rcases List.mem_append.1 hq with hq | hq
   ·exact (hpair1 q hq).1.dst t ht
   ·exact fun e => (hpair2 q hq).1.dst t e ht
  have hrok := (RunR.at h.run).1
  have hcl : Closed ops (fun j => (listed.setIfInBounds r.i true).getD j false = true) := closed_set hls hop h.closed hedge
  have hsz : (listed.setIfInBounds r.i true).size = ops.size := by rw [Array.size_setIfInBounds]; exact h.size
  have hh1 : ∀ q ∈ l1, ∀ t, q.o.dst = some t → t ∈ r.o.looksAt ops → X q.i = true := fun q hq t ht hl => hanc q (by simp [hq]) ((hpair1 q hq).1.rd t ht hl)
  have hh2 : ∀ q ∈ l2, ∀ t, q.o.dst = some t → t ∈ r.o.looksAt ops → X q.i = false := fun q hq t ht hl => by
   cases hqx : X q.i with
   | false => rfl
   | true =>
    exfalso
    have hql := rec_lt h.run (r := q) (by simp [hq])
    have hb := (hpair2 q hq).1.rdb t ht hl
    have hlq : listed.getD q.i false = true := by rw [h.listed_iff (by simp [hq]) hql.2]; exact hqx
    have := anc_done hA h.closed q.i q.o hql.1 (h.closed q.i q.o hql.1 hlq) r.i hlt hb
    rw [h.listed_iff (r := r) (by simp) hlt, hx] at this
    cases this
  have hrels := fun Hx => h.inv.rels h.run h.ok hx hh1 hh2 Hx
  have hwant : Region.wanted r.o (yielded ops a.tmps) = r.b := by
   obtain ⟨g, g1, g2⟩ := hrok.want
   exact wantK_inv (σ := σ) (D := DX P X l1 (Hp.dom H.get)) (env := r.envr) (n := n) ⟨h.inv.defers, h.inv.size, (hrels H).2⟩ g1 g2
  have hin : ∀ q ∈ l1 ++ r :: l2, q.i = r.i → q = r := fun q hq e => by
   rcases List.mem_append.1 hq with hq | hq
   ·exact ((hpair1 q hq).2 e).elim
   ·rcases List.mem_cons.1 hq with rfl | hq
    ·rfl
    ·exact ((hpair2 q hq).2 e.symm).elim
  -- early operations
  have hcount : ((l1 ++ r :: l2).filter fun q => !(addX X r.i q.i)).length ≤ fuel := by
   have e1 : (l1.filter fun q => !(addX X r.i q.i)) = l1.filter fun q => !(X q.i) := List.filter_congr fun q hq => by rw [addX_other (hnd q (by simp [hq]))]
   have e2 : (l2.filter fun q => !(addX X r.i q.i)) = l2.filter fun q => !(X q.i) := List.filter_congr fun q hq => by rw [addX_other (hnd q (by simp [hq]))]
   rw [List.filter_append, List.filter_cons] at hf
   rw [hx] at hf
   rw [List.filter_append, List.filter_cons, addX_self, e1, e2]
   simp only [Bool.not_false, if_true, List.length_append, List.length_cons, Bool.not_true, Bool.false_eq_true, if_false] at hf ⊢
   omega
  have hlx : ∀ q ∈ l1 ++ r :: l2, (listed.setIfInBounds r.i true).getD q.i true = addX X r.i q.i := fun q hq => by
   rw [set_getD hls]
   split
   ·rename_i e; rw [e, addX_self]
   ·rename_i e; rw [addX_other e]; exact h.lx q hq
  have hll : ∀ i, i < ops.size → (∀ q ∈ l1 ++ r :: l2, q.i ≠ i) → (listed.setIfInBounds r.i true).getD i true = true := fun i hi hne => by
   rw [set_getD hls]
   split
   ·rfl
   ·exact h.ll i hi hne
  have early : ∀ v', VR σ (DX P X l1 (Hp.dom H.get)) r.v v' → r.al P = false → isW P r.o = false → wpAny P .any ops Q fuel (listed.setIfInBounds r.i true) (a.put r.o.dst v') w := by
   intro v' hv hal hw
   exact ih _ (l1 ++ r :: l2) (addX X r.i) env H hist σ _ w ⟨h.run, h.ok, h.inv.early hal hw hnd hdd hrok.dst hv, h.fwd.early hal hin, h.nx, hsz, hlx, hll, hcl, h.pair⟩ hcount
  unfold wpOp
  rw [hop]
  simp only
  rw [hwant]
  cases hw : isW P r.o with
  | true =>
   -- a writer: all that stands ahead is passed
   obtain ⟨env', H', hist', h'⟩ := DSt.pass (l1 := l1) (l2 := r :: l2) h fun q hq => hanc q (by simp [hq]) ((hpair1 q hq).1.wr hw)
   have hrun' := h'.run
   obtain ⟨e1, e2, e3, _, hrest⟩ := hrun'
   have hcnt : (l2.filter fun q => !(X q.i)).length ≤ fuel := by
    rw [List.filter_append, List.filter_cons] at hf
    rw [hx] at hf
    simp only [Bool.not_false, if_true, List.length_append, List.length_cons] at hf
    omega
   subst e1
   subst e2
   have fin : ∀ v' σ' w', Sim P σ' r.H'.get w' → Fwd σ r.H.get w σ' r.H'.get w' → VR σ' (Hp.dom r.H'.get) r.v v' → wpAny P .any ops Q fuel (listed.setIfInBounds r.i true) (a.put r.o.dst v') w' := by
    intro v' σ' w' g1 g2 g3
    refine ih _ l2 X r.env' r.H' _ (mixR σ' σ r.H'.next) _ w' ⟨hrest, hrok.ok', h'.inv.write h'.run hx (fun q hq => hdd q (by simp [hq])) g1 g2 g3, h'.fwd.write s0 h'.run g2, Nat.le_trans h'.nx hrok.next, hsz, fun q hq => ?_, fun i hi hne => ?_, hcl, fun la q lb e => fun p hp => h'.pair (r :: la) q lb (by rw [e]; rfl) p (by simp [hp])⟩ hcnt
    ·rw [hlx q (by simp [hq]), addX_other (hnd q (by simp [hq]))]
    ·rw [set_getD hls]
     split
     ·rfl
     ·rename_i hne2
      refine h'.ll i hi fun q hq => ?_
      rcases List.mem_cons.1 hq with rfl | hq
      ·exact fun e => hne2 e.symm
      ·exact hne q hq
   cases hb : r.b with
   | false =>
    obtain ⟨g1, g2⟩ := hrok.no hb
    rw [if_neg (by simp)]
    have := fin undef σ w (by rw [g2]; exact h'.inv.sim) (by rw [g2]; exact .refl _ _ _) (by rw [g1]; exact .tuple _ _ .nil)
    exact this
   | true =>
    rw [if_pos rfl]
    left
    have hgood := hrok.yes hb
    have hcls : clsO P r.o.op = .w := by
     unfold isW at hw
     split at hw
     ·rename_i e; exact e
     ·cases hw
    rw [hcls] at hgood
    have hR2 := h'.inv.rels (l1 := []) (l2 := l2) (r := r) h'.run h'.ok hx (fun q hq => by cases hq) hh2 r.H
    refine OpOk.wp (hgood σ w a.eval h'.inv.sim hR2.1) fun v' w' hk => ?_
    obtain ⟨σ', g1, g2, g3⟩ := hk
    exact fin v' σ' w' g1 g2 g3
  | false =>
   cases hb : r.b with
   | false =>
    obtain ⟨g1, g2⟩ := hrok.no hb
    rw [if_neg (by simp)]
    exact early undef (by rw [g1]; exact .tuple _ _ .nil) (by unfold Rc.al; rw [hb]; rfl) hw
   | true =>
    rw [if_pos rfl]
    left
    have hgood := hrok.yes hb
    have pureCase : ∀ Hx, PureGood P (ev1 P r.envr Hx) r.o r.v → r.al P = false → r.o.wp P a w (wpAny P .any ops Q fuel (listed.setIfInBounds r.i true)) Q := fun Hx hp hal => by
     obtain ⟨v', g1, g2⟩ := hp σ _ w a.eval (hrels Hx).1
     exact OpOk.wp (K := fun u w' => u = v' ∧ w' = w) (OpOk.value g1 ⟨rfl, rfl⟩) fun u w' e => by
      rw [e.1, e.2]; exact early v' g2 hal hw
    cases hcls : clsO P r.o.op with
    | w => unfold isW at hw; rw [hcls] at hw; cases hw
    | p =>
     rw [hcls] at hgood
     exact pureCase r.H hgood.2 (by unfold Rc.al isA; rw [hcls]; simp)
    | l =>
     rw [hcls] at hgood
     have hal : r.al P = false := by unfold Rc.al isA; rw [hcls]; simp
     obtain ⟨_, hrd, hhist⟩ := hgood
     have hplace : ∃ la q lb, l1 ++ r :: l2 = la ++ q :: lb ∧ (∃ lz, l1 = la ++ lz) ∧ (∀ p ∈ la, isW P p.o = false) ∧ Reads P r.envr q.H r.o r.v := by
      rcases first_writer P l1 with hno | ⟨la, q, lb, e1, e2, e3⟩
      ·exact ⟨l1, r, l2, rfl, ⟨[], by simp⟩, hno, hrd⟩
      ·refine ⟨la, q, lb ++ r :: l2, by rw [e1]; simp, ⟨q :: lb, e1⟩, e2, ?_⟩
       have hqx : X q.i = false := by
        cases hqx : X q.i with
        | false => rfl
        | true =>
         have := h.inv.noW q (by rw [e1]; simp) hqx
         rw [e3] at this; cases this
       refine hhist (q.i, q.H) ?_ ?_
       ·have hR2 := h.run
        rw [e1, show (la ++ q :: lb) ++ r :: l2 = la ++ q :: (lb ++ r :: l2) by simp] at hR2
        exact RunR.hist_mem hR2 e3 (by simp)
       ·cases hbit : hasBit ((nth A r.i).getD 0) q.i with
        | false => rfl
        | true =>
         have := hanc q (by rw [e1]; simp) hbit
         rw [hqx] at this; cases this
     obtain ⟨la, q, lb, e1, e2, e3, hreads⟩ := hplace
     rcases hreads with hp | ⟨b, i, t, cs, hb', hh⟩
     ·exact pureCase q.H hp hal
     ·obtain ⟨k1, k2⟩ := hh σ _ a.eval (hrels q.H).1
      obtain ⟨r1, C, T, fr, r2, r3⟩ := h.inv.row h.run h.ok e1 e2 e3 hb' k1
      obtain ⟨v', g1, g2⟩ := k2 r1 w C T fr r2 r3
      exact OpOk.wp (K := fun u w' => u = v' ∧ w' = w) (OpOk.value g1 ⟨rfl, rfl⟩) fun u w' e => by
       rw [e.1, e.2]; exact early v' g2 hal hw
    | a =>
     rw [hcls] at hgood
     have hal : r.al P = true := by unfold Rc.al isA; rw [hcls, hb]; rfl
     obtain ⟨hn, i, t, cs, hg, hi', hgo⟩ := hgood
     obtain ⟨cs', rest, fr, v', w', gr, g1, g2, g3, g4⟩ := hgo σ _ w a.eval (hrels r.H).1
     refine OpOk.wp (K := fun u w'' => u = v' ∧ w'' = w') (OpOk.value g2 ⟨rfl, rfl⟩) fun u w'' e => ?_
     rw [e.1, e.2]
     have hqid : ∀ q ∈ l1 ++ r :: l2, q.i ≠ r.i → q.al P = true → q.H.next ≠ r.H.next := fun q hq hne hqa e => by
      obtain ⟨lc, ld, e'⟩ := List.append_of_mem hq
      exact hne (by rw [(RunR.id_inj h.run (la := lc) (q := q) (lb := ld) (lc := l1) (q' := r) (ld := l2) e' rfl hqa hal e).2.1])
     exact ih _ (l1 ++ r :: l2) (addX X r.i) env H hist _ _ w' ⟨h.run, h.ok, h.inv.earlyA h.run h.ok hx hal hw hnd hdd hg hi' g1 gr g3 g4, h.fwd.earlyA s0 h.inv.sim h.ok (RunR.next h.run r (by simp)) hqid hin g3 _, h.nx, hsz, hlx, hll, hcl, h.pair⟩ hcount
end
theorem draw_good {P : Program} {orc : Orc} (hm : P.follows .mixedOrders = true) (ho : OrcGood P orc) : DrawGood P (drawK P orc) := by
 intro rec hrec n ops env H c x hok h
 unfold drawK at h
 split at h
 ·rename_i p hp
  unfold planOf at hp
  simp only at hp
  split at hp
  ·rename_i hall
   obtain rfl := Option.some.inj hp
   rw [Bool.and_eq_true, Bool.and_eq_true, Bool.and_eq_true, Bool.and_eq_true] at hall
   obtain ⟨⟨_, hE⟩, hlen, hA, hord⟩ := hall
   obtain ⟨l, hl, hR⟩ := planK_inv ho hrec hok (fun p hp => by cases hp) h
   simp only at hl
   have hfin : ∀ {l : List Rc} {env : Env} {H : AH} {hist : List (Nat × AH)}, AH.ok P H → RunR P n ops (ancL ops.toList []) c x l env H hist → ∃ env' H', c env' H' = some x ∧ AH.ok P H' ∧ H.next ≤ H'.next := by
    intro l
    induction l with
    | nil => exact fun hok h => ⟨_, _, h, hok, Nat.le_refl _⟩
    | cons r l ih =>
     intro env H hist hok h
     obtain ⟨h1, h2, h3, h4, h5⟩ := h
     obtain ⟨env', H', q1, q2, q3⟩ := ih h4.ok' h5
     exact ⟨env', H', q1, q2, Nat.le_trans (by rw [← h2]; exact h4.next) q3⟩
   refine ⟨hfin hok hR, fun id σ a w Q hS hAct hc => ?_⟩
   have hinv := ordOk_inv hord
   refine wp_region_any hm ?_
   have hpair : ∀ l1 r l2, l = l1 ++ r :: l2 → ∀ q ∈ l1, PairOk P ops (ancL ops.toList []) q.i r.i q.o r.o ∧ q.i ≠ r.i := fun l1 r l2 e q hq => by
    have hr := rec_lt hR (r := r) (by rw [e]; simp)
    have hq' := rec_lt hR (r := q) (by rw [e]; simp [hq])
    obtain ⟨o, k1, k2⟩ := hinv (l1.map (·.i)) r.i (l2.map (·.i)) (by rw [← hl, e]; simp)
    have : r.o = o := by
     have := hr.1
     rw [k1] at this
     exact (Option.some.inj this).symm
    subst this
    obtain ⟨k3, k4⟩ := k2 q.i (.inl (List.mem_map.2 ⟨q, hq, rfl⟩))
    exact ⟨ordOk1_inv hq'.1 k3, k4⟩
   have hnd : l.map (·.i) |>.Nodup := by
    rw [List.nodup_iff_pairwise_ne, List.pairwise_iff_getElem]
    intro i j hi hj hij
    simp only [List.length_map] at hi hj
    simp only [List.getElem_map]
    have e : l = l.take j ++ l[j] :: l.drop (j + 1) := by simp
    exact (hpair _ _ _ e l[i] (by rw [List.mem_take_iff_getElem]; exact ⟨i, by omega, rfl⟩)).2
   have hcov : ∀ i, i < ops.size → ∃ r ∈ l, r.i = i := by
    intro i hi
    have hsub : ∀ j ∈ l.map (·.i), j ∈ List.range ops.size := fun j hj => by
     obtain ⟨r, hr, rfl⟩ := List.mem_map.1 hj
     exact List.mem_range.2 (rec_lt hR hr).2
    have hlen' : (l.map (·.i)).length = ops.size := by rw [hl]; exact Nat.eq_of_beq_eq_true hlen
    apply Classical.byContradiction
    intro hn
    have hni : i ∉ l.map (·.i) := fun hm => hn (let ⟨r, hr, e⟩ := List.mem_map.1 hm; ⟨r, hr, e⟩)
    have h2 : (i :: l.map (·.i)).Nodup := List.nodup_cons.2 ⟨hni, hnd⟩
    have := h2.length_le_of_subset (l₂ := List.range ops.size) fun j hj => by
     rcases List.mem_cons.1 hj with rfl | hj
     ·exact List.mem_range.2 hi
     ·exact hsub j hj
    simp only [List.length_cons, hlen', List.length_range] at this
    omega
   refine draw_any hA hE (H0 := H) (σ0 := σ) (w0 := w) (n := n) (c := c) (x := x) hS hc ops.size _ l (fun _ => false) env H [] σ a _ ⟨hR, hok, ⟨⟨hS.body, hS.apart, hS.glob⟩, hAct.defers, hAct.size, fun t v _ hv => hAct.slot t v hv, ?_, (fun r _ e => by cases e), (fun r _ e => by cases e)⟩, ⟨⟨.refl _ _, fun _ _ _ => rfl, fun b hb hl => (hl.not_none hb).elim, fun _ h _ => h, Nat.le_refl _, rfl, rfl, rfl, fun _ _ _ _ h => ⟨h, rfl⟩⟩, (fun r _ e => by cases e)⟩, Nat.le_refl _, by simp, fun r hr => ?_, fun i hi hne => ?_, fun i o ho hi => ?_, hpair⟩ ?_
   ·have : ∀ (l : List Rc) (D : Dom), Hold P σ (fun _ => false) a { w with drawn := w.drawn + 1 } l D := by
     intro l
     induction l with
     | nil => exact fun _ => trivial
     | cons r l ih => exact fun D => ⟨(fun e => by cases e), ih _⟩
    exact this l _
   ·have := (rec_lt hR hr).2
    simp [this]
   ·obtain ⟨r, hr, e⟩ := hcov i hi
    exact (hne r hr e).elim
   ·exfalso
    have hlt := (Array.getElem?_eq_some_iff.1 ho).1
    revert hi
    simp [hlt]
   ·have : l.length = ops.size := by
     rw [← List.length_map (f := (·.i)), hl]
     exact Nat.eq_of_beq_eq_true hlen
    refine Nat.le_trans (List.length_filter_le _ _) (Nat.le_of_eq this)
  ·cases hp
 ·cases h
end Go.Proofs.YtdcbnkimjhefkaaGreatDoor

namespace Go.Proofs.YtdcbnkimjhefkaaGreatDoor
open Go.RowKit
/-! ### Memory written out -/
noncomputable def Tr.lt {α : Type} : Tr α → Nat → Bool
 | .lf, _ => true
 | .nd l v r, n => (v.isNone || Nat.blt 0 n) && (l.lt (n / 2) && r.lt ((n - 1) / 2))
theorem Tr.get_of_lt {α : Type} : ∀ {t : Tr α} {n k : Nat}, t.lt n = true → n ≤ k → t.get k = none
 | .lf, _, _, _, _ => rfl
 | .nd l v r, n, k, h, hk => by
  unfold Tr.lt at h
  rw [Bool.and_eq_true, Bool.and_eq_true] at h
  obtain ⟨h1, h2, h3⟩ := h
  cases k with
  | zero =>
   have : n = 0 := by omega
   subst this
   rw [Tr.get_zero]
   cases v with
   | none => rfl
   | some x => cases h1
  | succ k =>
   rw [Tr.get_succ]
   cases hb : Nat.beq (Nat.mod k 2) 0 with
   | true =>
    have hm : k % 2 = 0 := Nat.eq_of_beq_eq_true hb
    refine Tr.get_of_lt h2 ?_
    show n / 2 ≤ k / 2
    omega
   | false =>
    have hm : k % 2 ≠ 0 := fun e => by
     have : Nat.beq (Nat.mod k 2) 0 = true := by rw [Nat.beq_eq]; exact e
     rw [this] at hb; cases hb
    refine Tr.get_of_lt h3 ?_
    show (n - 1) / 2 ≤ k / 2
    omega
noncomputable def okB (P : Program) (H : AH) : Bool := Nat.ble P.globals.size H.next && (H.m.lt H.next && (List.range P.globals.size).all fun g => (H.get g).isSome)
theorem ok_of {P : Program} {H : AH} (h : okB P H = true) : AH.ok P H := by
 unfold okB at h
 rw [Bool.and_eq_true, Bool.and_eq_true, List.all_eq_true] at h
 obtain ⟨h1, h2, h3⟩ := h
 refine ⟨Nat.le_of_ble_eq_true h1, fun b hb => Tr.get_of_lt h2 hb, fun g hg => ?_⟩
 have := h3 g (List.mem_range.2 hg)
 intro e
 rw [e] at this
 cases this
noncomputable def deadB : Tr Blk → Bool
 | .lf => true
 | .nd l v r => (match v with
  | some ⟨_, .dead⟩ => true
  | none => true
  | _ => false) && (deadB l && deadB r)
theorem dead_get : ∀ {t : Tr Blk} {k : Nat} {i : Option (Nat × Nat)} {x : Body}, deadB t = true → t.get k = some ⟨i, x⟩ → x = .dead
 | .lf, _, _, _, _, h => by cases h
 | .nd l v r, k, i, x, hd, h => by
  unfold deadB at hd
  rw [Bool.and_eq_true, Bool.and_eq_true] at hd
  obtain ⟨h1, h2, h3⟩ := hd
  cases k with
  | zero =>
   rw [Tr.get_zero] at h
   subst h
   cases x with
   | dead => rfl
   | _ => cases h1
  | succ k =>
   rw [Tr.get_succ] at h
   cases hb : Nat.beq (Nat.mod k 2) 0 with
   | true => rw [hb] at h; exact dead_get h2 h
   | false => rw [hb] at h; exact dead_get h3 h
theorem Fwd.below {σ σ' : Ren} {h h' : Hp} {w w' : World} (F : Fwd σ h w σ' h' w') {B : Nat} (hB : B ≤ w.heap.size) (hl : ∀ b, h.live b → B ≤ σ.blk b ∨ ∃ e t cs, h b = some ⟨some (0, e), .cells t cs⟩) : Below B w w' := by
 refine ⟨F.os, F.tape, F.output, F.size, fun k hk => ?_⟩
 by_cases hx : ∃ b, h.live b ∧ σ.blk b = k
 ·obtain ⟨b, hb, rfl⟩ := hx
  rcases hl b hb with h1 | ⟨e, t, cs, h2⟩
  ·omega
  ·exact (F.ro b e t cs h2).2
 ·exact F.old k (Nat.lt_of_lt_of_le hk hB) fun b hb e => hx ⟨b, hb, e⟩
structure Reads0 (P : Program) (H : AH) (w : World) : Prop where
 row : ∀ b i x, H.get b = some ⟨i, x⟩ → x ≠ .dead → ∃ t cs, x = .cells t cs ∧ b < P.globals.size ∧ i = some (0, cs.length) ∧ atoms0 cs = true ∧ ∀ j v, cs[j]? = some v → w.cell? ⟨b, j, none⟩ = some v
theorem Reads0.dead {P : Program} {H : AH} (hd : deadB H.m = true) (w : World) : Reads0 P H w := ⟨fun _ _ _ h hx => (hx (dead_get hd h)).elim⟩
theorem cell_size {w : World} {b j : Nat} {v : Value} (h : w.cell? ⟨b, j, none⟩ = some v) : ∃ C T fr, w.heap[b]? = some (.cells C T fr) ∧ C[j]? = some v := by
 unfold World.cell? at h
 simp only at h
 split at h
 ·rename_i C T fr hb; exact ⟨C, T, fr, hb, h⟩
 ·cases h
noncomputable def capR (H : AH) : Ren := ⟨fun b => b, fun _ => 0, fun b => match H.get b with
 | some ⟨_, .cells _ cs⟩ => cs.length
 | _ => 0⟩
theorem atoms_get {σ : Ren} {D : Dom} {cs : List Value} (h : atoms0 cs = true) {j : Nat} {v : Value} (hj : cs[j]? = some v) : VR σ D v v := by
 obtain ⟨v', h1, h2⟩ := (VRs.of_atoms0 (σ := σ) (D := D) h).get hj
 rw [hj] at h1
 obtain rfl := Option.some.inj h1
 exact h2
theorem Reads0.sim {P : Program} {H : AH} {w : World} (h : Reads0 P H w) (hne : ∀ b i t, H.get b ≠ some ⟨i, .cells t []⟩) : Sim P (capR H) H.get w := by
 refine ⟨fun b i x hb hx => ?_, fun b b' _ _ hne => hne, fun _ _ _ => ⟨rfl, rfl⟩⟩
 obtain ⟨t, cs, rfl, h1, h2, h3, h4⟩ := h.row b i x hb hx
 cases cs with
 | nil => exact (hne b i t hb).elim
 | cons v0 r =>
  obtain ⟨C, T, fr, q1, q2⟩ := cell_size (h4 0 v0 rfl)
  have hall : ∀ j v, (v0 :: r)[j]? = some v → C[j]? = some v := fun j v hj => by
   obtain ⟨C', T', fr', q3, q4⟩ := cell_size (h4 j v hj)
   rw [q1] at q3
   obtain ⟨rfl, _, _⟩ := by simpa using q3
   exact q4
  have hsz : (v0 :: r).length ≤ C.size := by
   have hlast : (v0 :: r)[r.length]? = some ((v0 :: r)[r.length]'(by simp)) := List.getElem?_eq_getElem _
   have := (Array.getElem?_eq_some_iff.1 (hall _ _ hlast)).1
   simp only [List.length_cons]
   omega
  have hcap : (capR H).cap b = (v0 :: r).length := by
   show (match H.get b with
    | some ⟨_, .cells _ cs⟩ => cs.length
    | _ => 0) = _
   rw [hb]
  refine ⟨_, q1, C, T, fr, rfl, ⟨fun hn => (hn _ h2).elim, ?_, fun j v hj => ⟨v, ?_, atoms_get h3 hj⟩, fun sz e he => ?_, fun hn => (hn _ h2).elim, rfl, fun hn => by rw [h2] at hn; cases hn⟩⟩
  ·show 0 + (v0 :: r).length ≤ C.size
   omega
  ·show C[0 + j]? = some v
   rw [Nat.zero_add]; exact hall j v hj
  ·rw [h2] at he
   simp only [Option.some.injEq, Prod.mk.injEq] at he
   rw [hcap]
   show _ ∧ _ ∧ 0 + _ ≤ _
   omega
theorem closed_call0 {P : Program} {orc : Orc} (hm : P.follows .mixedOrders = true) (ho : OrcGood P orc) {d : Nat} {f : FuncId} {args : List Value} {H : AH} {v : Value} (hok : okB P H = true) (ha : (args.all atomV && atomV v) = true) (h : (evalK P orc (drawK P orc) d f args H).map (·.1) = some v) (w : World) (hw : Reads0 P H w) (hne : ∀ b i t, H.get b ≠ some ⟨i, .cells t []⟩) :
  Calls P f args.toArray w fun e w' => e = .returned v ∧ Below w.heap.size w w' := by
 rw [Option.map_eq_some_iff] at h
 obtain ⟨⟨v1, H'⟩, h1, h2⟩ := h
 simp only at h2
 subst h2
 rw [Bool.and_eq_true, List.all_eq_true] at ha
 have hargs : ∀ l : List Value, (∀ u ∈ l, atomV u = true) → VRs (capR H) (Hp.dom H.get) l l := by
  intro l
  induction l with
  | nil => exact fun _ => .nil
  | cons u l ih => exact fun hu => .cons _ _ _ _ (.of_atomV (hu u (by simp))) (ih fun x hx => hu x (by simp [hx]))
 refine ((eval_sound ho (draw_good hm ho) d f args H v1 H' (ok_of hok) h1).2.2 (capR H) w args (hw.sim hne) (hargs args ha.1)).mono fun e w' hL => ?_
 obtain ⟨v', rfl, σ', hS, hF, hv⟩ := hL
 refine ⟨by rw [hv.atomV ha.2], hF.below (Nat.le_refl _) fun b ⟨i, x, hb, hx⟩ => .inr ?_⟩
 obtain ⟨t, cs, rfl, _, rfl, _, _⟩ := hw.row b i x hb hx
 exact ⟨_, _, _, hb⟩
end Go.Proofs.YtdcbnkimjhefkaaGreatDoor

namespace Go.Proofs.YtdcbnkimjhefkaaGreatDoor
noncomputable def bytesE : List Value → Option (List UInt8)
 | [] => some []
 | .int .u8 (.ofNat n) :: l => match Nat.blt n 256 with
  | true => match bytesE l with
   | some r => some (UInt8.ofNat n :: r)
   | none => none
  | false => none
 | _ => none
noncomputable def copyCheckF (tB : TypeId) : List Value → AH → Option (Value × AH)
 | [.pointer (some ⟨b, 0, none⟩)], H => match H.get b with
  | some ⟨none, .cells t [.pointer none, v]⟩ => match one0 v && Nat.beq t tB with
   | true => H.setK b ⟨none, .cells t [.pointer (some ⟨b, 0, none⟩), v]⟩ fun H => some (.tuple ⟨[]⟩, H)
   | false => none
  | some ⟨none, .cells _ [.pointer (some ⟨b', 0, none⟩), _]⟩ => match Nat.beq b b' with
   | true => some (.tuple ⟨[]⟩, H)
   | false => none
  | _ => none
 | _, _ => none
noncomputable def stringF (tU : TypeId) : List Value → AH → Option (Value × AH)
 | [.pointer (some ⟨b, 0, none⟩)], H => match H.get b with
  | some ⟨none, .cells _ [_, .slice (some ⟨g, 0, none⟩) (n + 1) m]⟩ => match H.get g with
   | some ⟨some (sz, e), .cells t cs⟩ => match roB (some (sz, e)) || !(Nat.beq t tU && Nat.ble (Nat.succ n) m && Nat.ble n 16777216) with
    | true => none
    | false => takeK (Nat.succ n) cs fun r => match bytesE r with
     | some l => bytesK l fun l => H.setK g ⟨some (sz, e), .dead⟩ fun H => some (.string ⟨⟨l⟩⟩, H)
     | none => none
   | _ => none
  | _ => none
 | _, _ => none
noncomputable def sortedF (it : TypeId) (ks : List FuncId) : List Value → AH → Option (Value × AH)
 | [.func (.func g) ⟨[]⟩ ⟨[.pointer (some ⟨c, 0, none⟩)]⟩], H => match ks.any (Nat.beq g), H.get c with
  | true, some ⟨_, .cells _ [.map (some m)]⟩ => match H.get m with
   | some ⟨_, .map [] _⟩ => some (.slice none 0 0, H)
   | some ⟨_, .map [⟨.int .i64 (.ofNat k), .bool _, 0⟩] 1⟩ => match Nat.blt k 1000000 with
    | true => H.newK ⟨some (1, 1), .cells it [.int .i64 (.ofNat k)]⟩ fun b H => some (.slice (some ⟨b, 0, none⟩) 1 1, H)
    | false => none
   | _ => none
  | _, _ => none
 | _, _ => none
end Go.Proofs.YtdcbnkimjhefkaaGreatDoor

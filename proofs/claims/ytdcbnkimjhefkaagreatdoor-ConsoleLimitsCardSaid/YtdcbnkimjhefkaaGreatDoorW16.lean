/-
  Regions whose order is drawn: what the static look tells.
  Regions whose order is drawn: every order does what the plan did.
-/
import Derived.Test.YtdcbnkimjhefkaaGreatDoorW15
namespace Go.Proofs.YtdcbnkimjhefkaaGreatDoor
section
variable {P : Program} {n : Nat} {ops : Array Oper} {A : List Nat}
/-- What has been carried out is closed under what must stand ahead. -/
def Closed (ops : Array Oper) (L : Nat → Prop) : Prop := ∀ i o, ops[i]? = some o → L i → ∀ e ∈ o.after, Region.binds .any e = true → L e.on
theorem anc_done (hA : ancOk ops A = true) {L : Nat → Prop} (hL : Closed ops L) : ∀ (i : Nat) (o : Oper), ops[i]? = some o → (∀ e ∈ o.after, Region.binds .any e = true → L e.on) → ∀ j, j < ops.size → hasBit ((nth A i).getD 0) j = true → L j := by
  intro i
  induction i using Nat.strongRecOn with
  | _ i ih =>
    intro o ho hr j hj hb
    unfold ancOk at hA
    rw [List.all_eq_true] at hA
    have h1 := hA i (List.mem_range.2 (Array.getElem?_eq_some_iff.1 ho).1)
    rw [ho] at h1
    simp only at h1
    rw [List.all_eq_true] at h1
    have h2 := h1 j (List.mem_range.2 hj)
    rw [hb] at h2
    simp only [Bool.not_true, Bool.false_or, List.any_eq_true, Bool.and_eq_true, Bool.or_eq_true] at h2
    obtain ⟨e, he, hbd, hlt, h3⟩ := h2
    have he' : e ∈ o.after := by simpa using he
    have hLe := hr e he' hbd
    have hlt' : e.on < i := Nat.le_of_ble_eq_true hlt
    rcases h3 with h3 | h3
    · rw [← Nat.eq_of_beq_eq_true h3]; exact hLe
    · have hsz : e.on < ops.size := by have := (Array.getElem?_eq_some_iff.1 ho).1; omega
      have ho2 : ops[e.on]? = some ops[e.on] := Array.getElem?_eq_getElem hsz
      exact ih e.on hlt' _ ho2 (hL _ _ ho2 hLe) j hj h3
/-- If none is ready, all have been carried out. -/
theorem all_done (hE : edgesOk ops = true) {listed : Array Bool} (hr : Region.ready .any ops listed = []) : ∀ i, i < ops.size → listed.getD i true = true := by
  intro i
  induction i using Nat.strongRecOn with
  | _ i ih =>
    intro hi
    cases hd : listed.getD i true with
    | true => rfl
    | false =>
      exfalso
      have ho : ops[i]? = some ops[i] := Array.getElem?_eq_getElem hi
      have hmem : i ∈ Region.ready .any ops listed := by
        rw [mem_ready]
        refine ⟨hd, ops[i], ho, fun e he hb => ?_⟩
        unfold edgesOk at hE
        rw [List.all_eq_true] at hE
        have h1 := hE i (List.mem_range.2 hi)
        rw [ho] at h1
        simp only at h1
        rw [List.all_eq_true] at h1
        have h2 := h1 e (by simpa using he)
        rw [hb] at h2
        simp only [Bool.not_true, Bool.false_or] at h2
        have hlt : e.on < i := Nat.le_of_ble_eq_true h2
        have h3 := ih e.on hlt (by omega)
        have hls : i < listed.size := getD_lt hd
        simp only [Array.getD_eq_getD_getElem?] at h3 ⊢
        rw [Array.getElem?_eq_getElem (by omega)] at h3 ⊢
        exact h3
      rw [hr] at hmem
      cases hmem
/-- The order, pair by pair. -/
structure PairOk (P : Program) (ops : Array Oper) (A : List Nat) (j i : Nat) (q o : Oper) : Prop where
  wr : isW P o = true → hasBit ((nth A i).getD 0) j = true
  rd : ∀ t, q.dst = some t → t ∈ o.looksAt ops → hasBit ((nth A i).getD 0) j = true
  dst : ∀ t, q.dst = some t → o.dst ≠ some t
  rdb : ∀ t, o.dst = some t → t ∈ q.looksAt ops → hasBit ((nth A i).getD 0) j = true
theorem ordOk1_inv {i j : Nat} {o q : Oper} (hq : ops[j]? = some q) (h : ordOk1 P ops A i o j = true) : PairOk P ops A j i q o := by
  unfold ordOk1 at h
  simp only [hq, Bool.and_eq_true] at h
  obtain ⟨⟨h1, h2⟩, h3⟩ := h
  refine ⟨fun hw => ?_, fun t ht hl => ?_, fun t ht => ?_, fun t ht hl => ?_⟩
  · rw [hw] at h1; simpa using h1
  · rw [ht] at h2
    simp only [Bool.and_eq_true] at h2
    have := h2.1
    rw [List.contains_iff_mem.2 hl] at this
    simpa using this
  · rw [ht] at h2
    simp only [Bool.and_eq_true] at h2
    have := h2.2
    intro e
    rw [e] at this
    simp at this
  · rw [ht] at h3
    simp only at h3
    rw [List.contains_iff_mem.2 hl] at h3
    simpa using h3
theorem ordOk_inv : ∀ {l pre : List Nat}, ordOk P ops A pre l = true → (∀ l1 i l2, l = l1 ++ i :: l2 → ∃ o, ops[i]? = some o ∧ ∀ j, j ∈ l1 ∨ j ∈ pre → ordOk1 P ops A i o j = true ∧ j ≠ i)
  | [], _, _, l1, i, l2, e => by cases l1 <;> simp at e
  | k :: l, pre, h, l1, i, l2, e => by
    unfold ordOk at h
    split at h
    · rename_i o ho
      rw [Bool.and_eq_true, Bool.and_eq_true] at h
      obtain ⟨h1, h2, h3⟩ := h
      cases l1 with
      | nil =>
        simp only [List.nil_append, List.cons.injEq] at e
        obtain ⟨rfl, rfl⟩ := e
        refine ⟨o, ho, fun j hj => ?_⟩
        rcases hj with hj | hj
        · cases hj
        · rw [List.all_eq_true] at h1
          refine ⟨h1 j hj, fun e => ?_⟩
          subst e
          have : memN j pre = true := by
            clear h1 h2 h3
            induction pre with
            | nil => cases hj
            | cons p pre ih =>
              unfold memN
              cases hb : Nat.beq j p with
              | true => rfl
              | false =>
                simp only
                rcases List.mem_cons.1 hj with rfl | hj
                · rw [Nat.beq_refl] at hb; cases hb
                · exact ih hj
          rw [this] at h2; cases h2
      | cons k' l1 =>
        simp only [List.cons_append, List.cons.injEq] at e
        obtain ⟨rfl, rfl⟩ := e
        obtain ⟨o', q1, q2⟩ := ordOk_inv h3 l1 i l2 rfl
        refine ⟨o', q1, fun j hj => q2 j ?_⟩
        rcases hj with hj | hj
        · rcases List.mem_cons.1 hj with rfl | hj
          · exact .inr (by simp)
          · exact .inl hj
        · exact .inr (by simp [hj])
    · cases h
end
end Go.Proofs.YtdcbnkimjhefkaaGreatDoor

namespace Go.Proofs.YtdcbnkimjhefkaaGreatDoor
section
variable {P : Program} {n : Nat} {ops : Array Oper} {A : List Nat} {σ0 σ : Ren} {H0 : AH} {w0 : World} {X : Nat → Bool} {a : Act} {w : World} {c : Env → AH → Option Ans} {x : Ans}
theorem RunR.hist_keep : ∀ {l : List Rc} {env : Env} {H : AH} {hist : List (Nat × AH)}, RunR P n ops A c x l env H hist → ∀ p ∈ hist, ∀ r ∈ l, p ∈ r.hist
  | [], _, _, _, _, _, _, r, hr => by cases hr
  | q :: l, env, H, hist, h, p, hp, r, hr => by
    obtain ⟨h1, h2, h3, h4, h5⟩ := h
    rcases List.mem_cons.1 hr with rfl | hr
    · rw [h3]; exact hp
    · refine RunR.hist_keep h5 p ?_ r hr
      split
      · simp [hp]
      · exact hp
theorem RunR.hist_mem {la lb : List Rc} {q r : Rc} {env : Env} {H : AH} {hist : List (Nat × AH)} (h : RunR P n ops A c x (la ++ q :: lb) env H hist) (hw : isW P q.o = true) (hr : r ∈ lb) : (q.i, q.H) ∈ r.hist := by
  obtain ⟨_, hist', h2⟩ := RunR.at h
  obtain ⟨g1, g2, g3, g4, g5⟩ := h2
  refine RunR.hist_keep g5 _ ?_ r hr
  rw [if_pos hw]
  simp
/-- The first writer of a list. -/
theorem first_writer (P : Program) : ∀ l : List Rc, (∀ q ∈ l, isW P q.o = false) ∨ ∃ la q lb, l = la ++ q :: lb ∧ (∀ p ∈ la, isW P p.o = false) ∧ isW P q.o = true
  | [] => .inl fun q hq => by cases hq
  | r :: l => by
    cases hw : isW P r.o with
    | true => exact .inr ⟨[], r, l, rfl, (fun p hp => by cases hp), hw⟩
    | false =>
      rcases first_writer P l with h | ⟨la, q, lb, h1, h2, h3⟩
      · refine .inl fun q hq => ?_
        rcases List.mem_cons.1 hq with rfl | hq
        · exact hw
        · exact h q hq
      · refine .inr ⟨r :: la, q, lb, by rw [h1]; rfl, fun p hp => ?_, h3⟩
        rcases List.mem_cons.1 hp with rfl | hp
        · exact hw
        · exact h2 p hp
structure DSt (P : Program) (n : Nat) (ops : Array Oper) (A : List Nat) (c : Env → AH → Option Ans) (x : Ans) (σ0 : Ren) (H0 : AH) (w0 : World) (listed : Array Bool) (l : List Rc) (X : Nat → Bool) (env : Env) (H : AH) (hist : List (Nat × AH)) (σ : Ren) (a : Act) (w : World) : Prop where
  run : RunR P n ops A c x l env H hist
  ok : AH.ok P H
  inv : DInv P n σ X l env H a w
  fwd : DFwd P σ0 H0 w0 σ X l H w
  nx : H0.next ≤ H.next
  size : listed.size = ops.size
  lx : ∀ r ∈ l, listed.getD r.i true = X r.i
  ll : ∀ i, i < ops.size → (∀ r ∈ l, r.i ≠ i) → listed.getD i true = true
  closed : Closed ops (fun i => listed.getD i false = true)
  pair : ∀ l1 r l2, l = l1 ++ r :: l2 → ∀ q ∈ l1, PairOk P ops A q.i r.i q.o r.o ∧ q.i ≠ r.i
theorem getD_tf {listed : Array Bool} {i : Nat} (h : i < listed.size) : listed.getD i true = listed.getD i false := by
  simp [h]
/-- Heads that were done early are passed. -/
theorem DSt.pass {listed : Array Bool} : ∀ {l1 l2 : List Rc} {env : Env} {H : AH} {hist : List (Nat × AH)}, DSt P n ops A c x σ0 H0 w0 listed (l1 ++ l2) X env H hist σ a w → (∀ q ∈ l1, X q.i = true) → ∃ env' H' hist', DSt P n ops A c x σ0 H0 w0 listed l2 X env' H' hist' σ a w
  | [], l2, env, H, hist, h, _ => ⟨env, H, hist, h⟩
  | r :: l1, l2, env, H, hist, h, hx => by
    have hrun := h.run
    obtain ⟨e1, e2, e3, hr, hrest⟩ := hrun
    have hxr := hx r (by simp)
    have hwr : isW P r.o = false := h.inv.noW r (by simp) hxr
    have hnd : ∀ q ∈ l1 ++ l2, q.i ≠ r.i := fun q hq e => by
      obtain ⟨la, lb, e'⟩ := List.append_of_mem hq
      have := (h.pair (r :: la) q lb (by rw [List.cons_append, e']; rfl) r (by simp)).2
      exact this e.symm
    have hinv := h.inv
    rw [← e1, ← e2] at hinv
    have hfwd := h.fwd
    rw [← e2] at hfwd
    refine DSt.pass (l1 := l1) (l2 := l2) ⟨hrest, hr.ok', hinv.absorb hr hxr hnd, hfwd.absorb hr hxr hwr, Nat.le_trans h.nx (by rw [← e2]; exact hr.next), h.size, fun q hq => h.lx q (List.mem_cons_of_mem _ hq), fun i hi hne => ?_, h.closed, fun la q lb e => h.pair (r :: la) q lb (by rw [List.cons_append, e]; rfl) |> fun k p hp => k p (List.mem_cons_of_mem _ hp)⟩ (fun q hq => hx q (List.mem_cons_of_mem _ hq))
    by_cases e : r.i = i
    · rw [← e, h.lx r (by simp)]; exact hxr
    · refine h.ll i hi fun q hq => ?_
      rcases List.mem_cons.1 hq with rfl | hq
      · exact e
      · exact hne q hq
/-- What is listed. -/
theorem DSt.listed_iff {listed : Array Bool} {l : List Rc} {env : Env} {H : AH} {hist : List (Nat × AH)} (h : DSt P n ops A c x σ0 H0 w0 listed l X env H hist σ a w) {r : Rc} (hr : r ∈ l) (hi : r.i < ops.size) : listed.getD r.i false = X r.i := by
  rw [← getD_tf (by rw [h.size]; exact hi)]
  exact h.lx r hr
theorem set_getD {listed : Array Bool} {i : Nat} (hi : i < listed.size) (j : Nat) (d : Bool) : (listed.setIfInBounds i true).getD j d = if j = i then true else listed.getD j d := by
  by_cases e : j = i
  · subst e; simp [hi]
  · rw [if_neg e, getD_set_ne d (Ne.symm e)]
theorem rec_lt {l : List Rc} {env : Env} {H : AH} {hist : List (Nat × AH)} (hR : RunR P n ops A c x l env H hist) {r : Rc} (hr : r ∈ l) : ops[r.i]? = some r.o ∧ r.i < ops.size := by
  obtain ⟨la, lb, rfl⟩ := List.append_of_mem hr
  have := (RunR.at hR).1.op
  exact ⟨this, (Array.getElem?_eq_some_iff.1 this).1⟩
theorem closed_set {listed : Array Bool} {i : Nat} {o : Oper} (hi : i < listed.size) (ho : ops[i]? = some o) (hc : Closed ops (fun i => listed.getD i false = true)) (hr : ∀ e ∈ o.after, Region.binds .any e = true → listed.getD e.on false = true) : Closed ops (fun j => (listed.setIfInBounds i true).getD j false = true) := by
  intro j q hq hj e he hb
  rw [set_getD hi] at hj
  apply getD_set_true
  split at hj
  · rename_i e1
    subst e1
    rw [ho] at hq
    obtain rfl := Option.some.inj hq
    exact hr e he hb
  · exact hc j q hq hj e he hb
/-- **Every order.** -/
theorem draw_any {Q : Exit → Act → World → Prop} (hA : ancOk ops A = true) (hE : edgesOk ops = true) (s0 : Sim P σ0 H0.get w0)
    (hc : ∀ env' H' σ' a' w', c env' H' = some x → AH.ok P H' → H0.next ≤ H'.next → Sim P σ' H'.get w' → Fwd σ0 H0.get w0 σ' H'.get w' → ActR σ' (Hp.dom H'.get) env' n a' → Q .normal a' w') :
    ∀ (fuel : Nat) (listed : Array Bool) (l : List Rc) (X : Nat → Bool) (env : Env) (H : AH) (hist : List (Nat × AH)) (σ : Ren) (a : Act) (w : World), DSt P n ops A c x σ0 H0 w0 listed l X env H hist σ a w → (l.filter fun r => !(X r.i)).length ≤ fuel → wpAny P .any ops Q fuel listed a w := by
  have done : ∀ (listed : Array Bool) (l : List Rc) (X : Nat → Bool) (env : Env) (H : AH) (hist : List (Nat × AH)) (σ : Ren) (a : Act) (w : World), DSt P n ops A c x σ0 H0 w0 listed l X env H hist σ a w → Region.ready .any ops listed = [] → Q .normal a w := by
    intro listed l X env H hist σ a w h hr
    have hall := all_done hE hr
    have hx : ∀ q ∈ l, X q.i = true := fun q hq => by
      rw [← h.lx q hq]
      exact hall q.i (rec_lt h.run hq).2
    obtain ⟨env', H', hist', h'⟩ := DSt.pass (l1 := l) (l2 := []) (by simpa using h) hx
    exact hc env' H' σ a w h'.run h'.ok h'.nx h'.inv.sim h'.fwd.fwd ⟨h'.inv.defers, h'.inv.size, fun t v hv => h'.inv.slot t v (fun q hq => by cases hq) hv⟩
  have ready_rec : ∀ (listed : Array Bool) (l : List Rc) (X : Nat → Bool) (env : Env) (H : AH) (hist : List (Nat × AH)) (σ : Ren) (a : Act) (w : World), DSt P n ops A c x σ0 H0 w0 listed l X env H hist σ a w → ∀ i ∈ Region.ready .any ops listed, ∃ r ∈ l, r.i = i ∧ X r.i = false ∧ ops[r.i]? = some r.o ∧ r.i < ops.size ∧ (∀ e ∈ r.o.after, Region.binds .any e = true → listed.getD e.on false = true) := by
    intro listed l X env H hist σ a w h i hi
    rw [mem_ready] at hi
    obtain ⟨h0, o, ho, hall⟩ := hi
    have hlt : i < ops.size := (Array.getElem?_eq_some_iff.1 ho).1
    have hex : ∃ r ∈ l, r.i = i := by
      apply Classical.byContradiction
      intro hn
      have := h.ll i hlt fun r hr e => hn ⟨r, hr, e⟩
      rw [this] at h0
      cases h0
    obtain ⟨r, hr, rfl⟩ := hex
    have hop := rec_lt h.run hr
    have : r.o = o := by
      have := hop.1
      rw [ho] at this
      exact (Option.some.inj this).symm
    subst this
    exact ⟨r, hr, rfl, by rw [← h.lx r hr]; exact h0, hop.1, hop.2, hall⟩
  intro fuel
  induction fuel with
  | zero =>
    intro listed l X env H hist σ a w h hf
    have hr : Region.ready .any ops listed = [] := by
      cases hrd : Region.ready .any ops listed with
      | nil => rfl
      | cons i rs =>
        obtain ⟨r, hr, _, hx, _⟩ := ready_rec listed l X env H hist σ a w h i (by rw [hrd]; simp)
        have hm : r ∈ l.filter fun r => !(X r.i) := List.mem_filter.2 ⟨hr, by simp [hx]⟩
        have := List.length_pos_of_mem hm
        omega
    exact ⟨hr, done listed l X env H hist σ a w h hr⟩
  | succ fuel ih =>
    intro listed l X env H hist σ a w h hf
    refine ⟨done listed l X env H hist σ a w h, fun i hi => ?_⟩
    obtain ⟨r, hr, rfl, hx, hop, hlt, hedge⟩ := ready_rec listed l X env H hist σ a w h i hi
    have hanc : ∀ q ∈ l, hasBit ((nth A r.i).getD 0) q.i = true → X q.i = true := fun q hq hb => by
      have hql := (rec_lt h.run hq).2
      rw [← h.listed_iff hq hql]
      exact anc_done hA h.closed r.i r.o hop hedge q.i hql hb
    have hls : r.i < listed.size := by rw [h.size]; exact hlt
    obtain ⟨l1, l2, rfl⟩ := List.append_of_mem hr
    have hpair1 := h.pair l1 r l2 rfl
    have hpair2 : ∀ q ∈ l2, PairOk P ops A r.i q.i r.o q.o ∧ r.i ≠ q.i := fun q hq => by
      obtain ⟨la, lb, rfl⟩ := List.append_of_mem hq
      exact h.pair (l1 ++ r :: la) q lb (by simp) r (by simp)
    have hnd : ∀ q ∈ l1 ++ l2, q.i ≠ r.i := fun q hq => by
      rcases List.mem_append.1 hq with hq | hq
      · exact (hpair1 q hq).2
      · exact fun e => (hpair2 q hq).2 e.symm
    have hdd : ∀ q ∈ l1 ++ l2, ∀ t, q.o.dst = some t → r.o.dst ≠ some t := fun q hq t ht => by
      rcases List.mem_append.1 hq with hq | hq
      · exact (hpair1 q hq).1.dst t ht
      · exact fun e => (hpair2 q hq).1.dst t e ht
    have hrok := (RunR.at h.run).1
    have hcl : Closed ops (fun j => (listed.setIfInBounds r.i true).getD j false = true) := closed_set hls hop h.closed hedge
    have hsz : (listed.setIfInBounds r.i true).size = ops.size := by rw [Array.size_setIfInBounds]; exact h.size
    have hh1 : ∀ q ∈ l1, ∀ t, q.o.dst = some t → t ∈ r.o.looksAt ops → X q.i = true := fun q hq t ht hl => hanc q (by simp [hq]) ((hpair1 q hq).1.rd t ht hl)
    have hh2 : ∀ q ∈ l2, ∀ t, q.o.dst = some t → t ∈ r.o.looksAt ops → X q.i = false := fun q hq t ht hl => by
      cases hqx : X q.i with
      | false => rfl
      | true =>
        exfalso
        have hql := rec_lt h.run (r := q) (by simp [hq])
        have hb := (hpair2 q hq).1.rdb t ht hl
        have hlq : listed.getD q.i false = true := by rw [h.listed_iff (by simp [hq]) hql.2]; exact hqx
        have := anc_done hA h.closed q.i q.o hql.1 (h.closed q.i q.o hql.1 hlq) r.i hlt hb
        rw [h.listed_iff (r := r) (by simp) hlt, hx] at this
        cases this
    have hrels := fun Hx => h.inv.rels h.run h.ok hx hh1 hh2 Hx
    have hwant : Region.wanted r.o (yielded ops a.tmps) = r.b := by
      obtain ⟨g, g1, g2⟩ := hrok.want
      exact wantK_inv (σ := σ) (D := DX P X l1 (Hp.dom H.get)) (env := r.envr) (n := n) ⟨h.inv.defers, h.inv.size, (hrels H).2⟩ g1 g2
    have hin : ∀ q ∈ l1 ++ r :: l2, q.i = r.i → q = r := fun q hq e => by
      rcases List.mem_append.1 hq with hq | hq
      · exact ((hpair1 q hq).2 e).elim
      · rcases List.mem_cons.1 hq with rfl | hq
        · rfl
        · exact ((hpair2 q hq).2 e.symm).elim
    -- early operations
    have hcount : ((l1 ++ r :: l2).filter fun q => !(addX X r.i q.i)).length ≤ fuel := by
      have e1 : (l1.filter fun q => !(addX X r.i q.i)) = l1.filter fun q => !(X q.i) := List.filter_congr fun q hq => by rw [addX_other (hnd q (by simp [hq]))]
      have e2 : (l2.filter fun q => !(addX X r.i q.i)) = l2.filter fun q => !(X q.i) := List.filter_congr fun q hq => by rw [addX_other (hnd q (by simp [hq]))]
      rw [List.filter_append, List.filter_cons] at hf
      rw [hx] at hf
      rw [List.filter_append, List.filter_cons, addX_self, e1, e2]
      simp only [Bool.not_false, if_true, List.length_append, List.length_cons, Bool.not_true, Bool.false_eq_true, if_false] at hf ⊢
      omega
    have hlx : ∀ q ∈ l1 ++ r :: l2, (listed.setIfInBounds r.i true).getD q.i true = addX X r.i q.i := fun q hq => by
      rw [set_getD hls]
      split
      · rename_i e; rw [e, addX_self]
      · rename_i e; rw [addX_other e]; exact h.lx q hq
    have hll : ∀ i, i < ops.size → (∀ q ∈ l1 ++ r :: l2, q.i ≠ i) → (listed.setIfInBounds r.i true).getD i true = true := fun i hi hne => by
      rw [set_getD hls]
      split
      · rfl
      · exact h.ll i hi hne
    have early : ∀ v', VR σ (DX P X l1 (Hp.dom H.get)) r.v v' → r.al P = false → isW P r.o = false → wpAny P .any ops Q fuel (listed.setIfInBounds r.i true) (a.put r.o.dst v') w := by
      intro v' hv hal hw
      exact ih _ (l1 ++ r :: l2) (addX X r.i) env H hist σ _ w ⟨h.run, h.ok, h.inv.early hal hw hnd hdd hrok.dst hv, h.fwd.early hal hin, h.nx, hsz, hlx, hll, hcl, h.pair⟩ hcount
    unfold wpOp
    rw [hop]
    simp only
    rw [hwant]
    cases hw : isW P r.o with
    | true =>
      -- a writer: all that stands ahead is passed
      obtain ⟨env', H', hist', h'⟩ := DSt.pass (l1 := l1) (l2 := r :: l2) h fun q hq => hanc q (by simp [hq]) ((hpair1 q hq).1.wr hw)
      have hrun' := h'.run
      obtain ⟨e1, e2, e3, _, hrest⟩ := hrun'
      have hcnt : (l2.filter fun q => !(X q.i)).length ≤ fuel := by
        rw [List.filter_append, List.filter_cons] at hf
        rw [hx] at hf
        simp only [Bool.not_false, if_true, List.length_append, List.length_cons] at hf
        omega
      subst e1
      subst e2
      have fin : ∀ v' σ' w', Sim P σ' r.H'.get w' → Fwd σ r.H.get w σ' r.H'.get w' → VR σ' (Hp.dom r.H'.get) r.v v' → wpAny P .any ops Q fuel (listed.setIfInBounds r.i true) (a.put r.o.dst v') w' := by
        intro v' σ' w' g1 g2 g3
        refine ih _ l2 X r.env' r.H' _ (mixR σ' σ r.H'.next) _ w' ⟨hrest, hrok.ok', h'.inv.write h'.run hx (fun q hq => hdd q (by simp [hq])) g1 g2 g3, h'.fwd.write s0 h'.run g2, Nat.le_trans h'.nx hrok.next, hsz, fun q hq => ?_, fun i hi hne => ?_, hcl, fun la q lb e => fun p hp => h'.pair (r :: la) q lb (by rw [e]; rfl) p (by simp [hp])⟩ hcnt
        · rw [hlx q (by simp [hq]), addX_other (hnd q (by simp [hq]))]
        · rw [set_getD hls]
          split
          · rfl
          · rename_i hne2
            refine h'.ll i hi fun q hq => ?_
            rcases List.mem_cons.1 hq with rfl | hq
            · exact fun e => hne2 e.symm
            · exact hne q hq
      cases hb : r.b with
      | false =>
        obtain ⟨g1, g2⟩ := hrok.no hb
        rw [if_neg (by simp)]
        have := fin undef σ w (by rw [g2]; exact h'.inv.sim) (by rw [g2]; exact .refl _ _ _) (by rw [g1]; exact .tuple _ _ .nil)
        exact this
      | true =>
        rw [if_pos rfl]
        left
        have hgood := hrok.yes hb
        have hcls : clsO P r.o.op = .w := by
          unfold isW at hw
          split at hw
          · rename_i e; exact e
          · cases hw
        rw [hcls] at hgood
        have hR2 := h'.inv.rels (l1 := []) (l2 := l2) (r := r) h'.run h'.ok hx (fun q hq => by cases hq) hh2 r.H
        refine OpOk.wp (hgood σ w a.eval h'.inv.sim hR2.1) fun v' w' hk => ?_
        obtain ⟨σ', g1, g2, g3⟩ := hk
        exact fin v' σ' w' g1 g2 g3
    | false =>
      cases hb : r.b with
      | false =>
        obtain ⟨g1, g2⟩ := hrok.no hb
        rw [if_neg (by simp)]
        exact early undef (by rw [g1]; exact .tuple _ _ .nil) (by unfold Rc.al; rw [hb]; rfl) hw
      | true =>
        rw [if_pos rfl]
        left
        have hgood := hrok.yes hb
        have pureCase : ∀ Hx, PureGood P (ev1 P r.envr Hx) r.o r.v → r.al P = false → r.o.wp P a w (wpAny P .any ops Q fuel (listed.setIfInBounds r.i true)) Q := fun Hx hp hal => by
          obtain ⟨v', g1, g2⟩ := hp σ _ w a.eval (hrels Hx).1
          exact OpOk.wp (K := fun u w' => u = v' ∧ w' = w) (OpOk.value g1 ⟨rfl, rfl⟩) fun u w' e => by
            rw [e.1, e.2]; exact early v' g2 hal hw
        cases hcls : clsO P r.o.op with
        | w => unfold isW at hw; rw [hcls] at hw; cases hw
        | p =>
          rw [hcls] at hgood
          exact pureCase r.H hgood.2 (by unfold Rc.al isA; rw [hcls]; simp)
        | l =>
          rw [hcls] at hgood
          have hal : r.al P = false := by unfold Rc.al isA; rw [hcls]; simp
          obtain ⟨_, hrd, hhist⟩ := hgood
          have hplace : ∃ la q lb, l1 ++ r :: l2 = la ++ q :: lb ∧ (∃ lz, l1 = la ++ lz) ∧ (∀ p ∈ la, isW P p.o = false) ∧ Reads P r.envr q.H r.o r.v := by
            rcases first_writer P l1 with hno | ⟨la, q, lb, e1, e2, e3⟩
            · exact ⟨l1, r, l2, rfl, ⟨[], by simp⟩, hno, hrd⟩
            · refine ⟨la, q, lb ++ r :: l2, by rw [e1]; simp, ⟨q :: lb, e1⟩, e2, ?_⟩
              have hqx : X q.i = false := by
                cases hqx : X q.i with
                | false => rfl
                | true =>
                  have := h.inv.noW q (by rw [e1]; simp) hqx
                  rw [e3] at this; cases this
              refine hhist (q.i, q.H) ?_ ?_
              · have hR2 := h.run
                rw [e1, show (la ++ q :: lb) ++ r :: l2 = la ++ q :: (lb ++ r :: l2) by simp] at hR2
                exact RunR.hist_mem hR2 e3 (by simp)
              · cases hbit : hasBit ((nth A r.i).getD 0) q.i with
                | false => rfl
                | true =>
                  have := hanc q (by rw [e1]; simp) hbit
                  rw [hqx] at this; cases this
          obtain ⟨la, q, lb, e1, e2, e3, hreads⟩ := hplace
          rcases hreads with hp | ⟨b, i, t, cs, hb', hh⟩
          · exact pureCase q.H hp hal
          · obtain ⟨k1, k2⟩ := hh σ _ a.eval (hrels q.H).1
            obtain ⟨r1, C, T, fr, r2, r3⟩ := h.inv.row h.run h.ok e1 e2 e3 hb' k1
            obtain ⟨v', g1, g2⟩ := k2 r1 w C T fr r2 r3
            exact OpOk.wp (K := fun u w' => u = v' ∧ w' = w) (OpOk.value g1 ⟨rfl, rfl⟩) fun u w' e => by
              rw [e.1, e.2]; exact early v' g2 hal hw
        | a =>
          rw [hcls] at hgood
          have hal : r.al P = true := by unfold Rc.al isA; rw [hcls, hb]; rfl
          obtain ⟨hn, i, t, cs, hg, hi', hgo⟩ := hgood
          obtain ⟨cs', rest, fr, v', w', gr, g1, g2, g3, g4⟩ := hgo σ _ w a.eval (hrels r.H).1
          refine OpOk.wp (K := fun u w'' => u = v' ∧ w'' = w') (OpOk.value g2 ⟨rfl, rfl⟩) fun u w'' e => ?_
          rw [e.1, e.2]
          have hqid : ∀ q ∈ l1 ++ r :: l2, q.i ≠ r.i → q.al P = true → q.H.next ≠ r.H.next := fun q hq hne hqa e => by
            obtain ⟨lc, ld, e'⟩ := List.append_of_mem hq
            exact hne (by rw [(RunR.id_inj h.run (la := lc) (q := q) (lb := ld) (lc := l1) (q' := r) (ld := l2) e' rfl hqa hal e).2.1])
          exact ih _ (l1 ++ r :: l2) (addX X r.i) env H hist _ _ w' ⟨h.run, h.ok, h.inv.earlyA h.run h.ok hx hal hw hnd hdd hg hi' g1 gr g3 g4, h.fwd.earlyA s0 h.inv.sim h.ok (RunR.next h.run r (by simp)) hqid hin g3 _, h.nx, hsz, hlx, hll, hcl, h.pair⟩ hcount
end
/-- **Regions whose order is drawn.** -/
theorem draw_good {P : Program} {orc : Orc} (hm : P.follows .mixedOrders = true) (ho : OrcGood P orc) : DrawGood P (drawK P orc) := by
  intro rec hrec n ops env H c x hok h
  unfold drawK at h
  split at h
  · rename_i p hp
    unfold planOf at hp
    simp only at hp
    split at hp
    · rename_i hall
      obtain rfl := Option.some.inj hp
      rw [Bool.and_eq_true, Bool.and_eq_true, Bool.and_eq_true, Bool.and_eq_true] at hall
      obtain ⟨⟨_, hE⟩, hlen, hA, hord⟩ := hall
      obtain ⟨l, hl, hR⟩ := planK_inv ho hrec hok (fun p hp => by cases hp) h
      simp only at hl
      have hfin : ∀ {l : List Rc} {env : Env} {H : AH} {hist : List (Nat × AH)}, AH.ok P H → RunR P n ops (ancL ops.toList []) c x l env H hist → ∃ env' H', c env' H' = some x ∧ AH.ok P H' ∧ H.next ≤ H'.next := by
        intro l
        induction l with
        | nil => exact fun hok h => ⟨_, _, h, hok, Nat.le_refl _⟩
        | cons r l ih =>
          intro env H hist hok h
          obtain ⟨h1, h2, h3, h4, h5⟩ := h
          obtain ⟨env', H', q1, q2, q3⟩ := ih h4.ok' h5
          exact ⟨env', H', q1, q2, Nat.le_trans (by rw [← h2]; exact h4.next) q3⟩
      refine ⟨hfin hok hR, fun id σ a w Q hS hAct hc => ?_⟩
      have hinv := ordOk_inv hord
      refine wp_region_any hm ?_
      have hpair : ∀ l1 r l2, l = l1 ++ r :: l2 → ∀ q ∈ l1, PairOk P ops (ancL ops.toList []) q.i r.i q.o r.o ∧ q.i ≠ r.i := fun l1 r l2 e q hq => by
        have hr := rec_lt hR (r := r) (by rw [e]; simp)
        have hq' := rec_lt hR (r := q) (by rw [e]; simp [hq])
        obtain ⟨o, k1, k2⟩ := hinv (l1.map (·.i)) r.i (l2.map (·.i)) (by rw [← hl, e]; simp)
        have : r.o = o := by
          have := hr.1
          rw [k1] at this
          exact (Option.some.inj this).symm
        subst this
        obtain ⟨k3, k4⟩ := k2 q.i (.inl (List.mem_map.2 ⟨q, hq, rfl⟩))
        exact ⟨ordOk1_inv hq'.1 k3, k4⟩
      have hnd : l.map (·.i) |>.Nodup := by
        rw [List.nodup_iff_pairwise_ne, List.pairwise_iff_getElem]
        intro i j hi hj hij
        simp only [List.length_map] at hi hj
        simp only [List.getElem_map]
        have e : l = l.take j ++ l[j] :: l.drop (j + 1) := by simp
        exact (hpair _ _ _ e l[i] (by rw [List.mem_take_iff_getElem]; exact ⟨i, by omega, rfl⟩)).2
      have hcov : ∀ i, i < ops.size → ∃ r ∈ l, r.i = i := by
        intro i hi
        have hsub : ∀ j ∈ l.map (·.i), j ∈ List.range ops.size := fun j hj => by
          obtain ⟨r, hr, rfl⟩ := List.mem_map.1 hj
          exact List.mem_range.2 (rec_lt hR hr).2
        have hlen' : (l.map (·.i)).length = ops.size := by rw [hl]; exact Nat.eq_of_beq_eq_true hlen
        apply Classical.byContradiction
        intro hn
        have hni : i ∉ l.map (·.i) := fun hm => hn (let ⟨r, hr, e⟩ := List.mem_map.1 hm; ⟨r, hr, e⟩)
        have h2 : (i :: l.map (·.i)).Nodup := List.nodup_cons.2 ⟨hni, hnd⟩
        have := h2.length_le_of_subset (l₂ := List.range ops.size) fun j hj => by
          rcases List.mem_cons.1 hj with rfl | hj
          · exact List.mem_range.2 hi
          · exact hsub j hj
        simp only [List.length_cons, hlen', List.length_range] at this
        omega
      refine draw_any hA hE (H0 := H) (σ0 := σ) (w0 := w) (n := n) (c := c) (x := x) hS hc ops.size _ l (fun _ => false) env H [] σ a _ ⟨hR, hok, ⟨⟨hS.body, hS.apart, hS.glob⟩, hAct.defers, hAct.size, fun t v _ hv => hAct.slot t v hv, ?_, (fun r _ e => by cases e), (fun r _ e => by cases e)⟩, ⟨⟨.refl _ _, fun _ _ _ => rfl, fun b hb hl => (hl.not_none hb).elim, fun _ h _ => h, Nat.le_refl _, rfl, rfl, rfl, fun _ _ _ _ h => ⟨h, rfl⟩⟩, (fun r _ e => by cases e)⟩, Nat.le_refl _, by simp, fun r hr => ?_, fun i hi hne => ?_, fun i o ho hi => ?_, hpair⟩ ?_
      · have : ∀ (l : List Rc) (D : Dom), Hold P σ (fun _ => false) a { w with drawn := w.drawn + 1 } l D := by
          intro l
          induction l with
          | nil => exact fun _ => trivial
          | cons r l ih => exact fun D => ⟨(fun e => by cases e), ih _⟩
        exact this l _
      · have := (rec_lt hR hr).2
        simp [this]
      · obtain ⟨r, hr, e⟩ := hcov i hi
        exact (hne r hr e).elim
      · exfalso
        have hlt := (Array.getElem?_eq_some_iff.1 ho).1
        revert hi
        simp [hlt]
      · have : l.length = ops.size := by
          rw [← List.length_map (f := (·.i)), hl]
          exact Nat.eq_of_beq_eq_true hlen
        refine Nat.le_trans (List.length_filter_le _ _) (Nat.le_of_eq this)
    · cases hp
  · cases h
end Go.Proofs.YtdcbnkimjhefkaaGreatDoor

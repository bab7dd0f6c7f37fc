/-
  Append, calls; every operation.
-/
import Derived.Test.YtdcbnkimjhefkaaGreatDoorW09
import Derived.Test.YtdcbnkimjhefkaaGreatDoorW10
namespace Go.Proofs.YtdcbnkimjhefkaaGreatDoor
section
variable {P : Program} {env : Env} {H : AH} {β : Type} {o : Oper} {c : Value → AH → Option β} {r : β}
theorem lenK_run {σ : Ren} {D : Dom} {x x' : Value} {n : Nat} (h : lenK x = some n) (hv : VR σ D x x') (w : World) : (Builtin.lenOf x').run P w = .ok n w := by
  unfold lenK at h
  split at h
  · obtain rfl := Option.some.inj h
    cases hv <;> rfl
  · obtain rfl := Option.some.inj h
    cases hv; rfl
  · cases h
theorem Sim.drew {σ : Ren} {h : Hp} {w : World} (s : Sim P σ h w) : Sim P σ h w.drew := ⟨s.body, s.apart, s.glob⟩
theorem Fwd.next {σ σ' σ'' : Ren} {h h' h'' : Hp} {w w' w'' : World} (hs : Sim P σ h w) (f : Fwd σ h w σ' h' w') (g : Fwd σ' h' w' σ'' h'' w'') : Fwd σ h w σ'' h'' w'' := Fwd.trans hs f g
theorem good_append (hok : AH.ok P H) {args : Array Operand} {ts : Array TypeId} (hop : o.op = .call ⟨.builtin .append, args, ts⟩) {s x : Value} (hvs : args.toList.map (ev1 P env H) = [s, x].map some) {t u : TypeId} (hts : ts.toList = [t, u]) (h : appendK P t u s x H c = some r) : ResC P env H o c r .w := by
  have ht0 : ts[0]? = some t := by rw [← Array.getElem?_toList, hts]; rfl
  have ht1 : ts[1]? = some u := by rw [← Array.getElem?_toList, hts]; rfl
  have hargs : ∀ σ ρ, Rels (ev1 P env H) σ (Hp.dom H.get) ρ → ∃ s' x', args.map ρ = #[s', x'] ∧ VR σ (Hp.dom H.get) s s' ∧ VR σ (Hp.dom H.get) x x' := by
    intro σ ρ hr
    have hv := evs_vr hr hvs
    generalize hm : args.toList.map ρ = m at hv
    cases hv with
    | cons _ s' _ l' h1 h2 =>
      cases h2 with
      | cons _ x' _ l'' h3 h4 =>
        cases h4
        refine ⟨s', x', ?_, h1, h3⟩
        apply Array.ext'
        rw [Array.toList_map, hm]
  unfold appendK at h
  split at h
  · rename_i e hu hchk
    rw [hu, Bool.and_eq_true] at hchk
    obtain ⟨hsm, hpl⟩ := hchk
    unfold smallB elemOfB at hsm
    split at hsm
    · rename_i nb z hb hz
      rw [Bool.and_eq_true] at hsm
      split at h
      · rename_i sz n hs hn
        obtain ⟨i, hi, hiz⟩ : ∃ i, P.info? e = some i ∧ i.zero = some z := by
          unfold zeroB at hz
          rw [Option.bind_eq_some_iff] at hz
          exact hz
        have hisz : i.size = sz := by unfold sizeB at hs; rw [hi] at hs; exact Option.some.inj hs
        have hib : i.bytes ≤ 1048576 := by
          unfold bytesB at hb
          rw [hi] at hb
          rw [show i.bytes = nb from Option.some.inj hb]
          exact Nat.le_of_ble_eq_true hsm.1
        have hzs : z.cells.size = sz := by
          have := hsm.2
          rw [beq_iff_eq] at this
          rw [show sizeB P e = some sz from hs] at this
          rw [cellsL_eq]
          simp
          exact (Option.some.inj this).symm
        have T : AppT P ts t u e i z := ⟨ht0, ht1, hu, hpl, hi, hiz⟩
        subst hisz
        obtain ⟨new, h1, hnew⟩ := firstK_inv (P := P) h (.inl hn)
        have hexec : ∀ σ ρ w K, Rels (ev1 P env H) σ (Hp.dom H.get) ρ → (∀ s' x', VR σ (Hp.dom H.get) s s' → VR σ (Hp.dom H.get) x x' → ∃ v' w', (Builtin.append_ ts o.type #[s', x']).run P w = .ok v' w' ∧ K v' w') → OpOk P o ρ w K := by
          intro σ ρ w K hr hh
          obtain ⟨s', x', e1, e2, e3⟩ := hargs σ ρ hr
          obtain ⟨v', w', e4, e5⟩ := hh s' x' e2 e3
          refine OpOk.value (v := v') (w' := w') ?_ e5
          rw [exec_builtin hop, e1]
          show (do pure (.value (← Builtin.append_ ts o.type #[s', x'])) : Sem Next).run P w = _
          simp [e4]
        split at h1
        · -- nil
          split at h1
          · rename_i hn0
            refine ⟨_, H, h1, hok, Nat.le_refl _, fun σ w ρ hS hr => hexec σ ρ w _ hr fun s' x' hs' hx' => ?_⟩
            obtain ⟨row', g1, g2⟩ := hnew σ w x' hS hx'
            cases hs'
            refine ⟨.slice none 0 0, w, ?_, σ, hS, .refl _ _ _, .nilslice 0 0⟩
            have hl := lenK_run (P := P) hn hx' w
            have hplu := hpl
            unfold plainArg at hplu
            split at hplu
            · rename_i e' hu'
              simp [Builtin.append_, ht0, ht1, run_underlying hu, run_underlying hu', sizeOf, typeInfo, hi, hl, g1]
            · rename_i hu'
              simp [Builtin.append_, ht0, ht1, run_underlying hu, run_underlying hu', sizeOf, typeInfo, hi, hl, g1]
            · cases hplu
          · rename_i n
            split at h1
            · rename_i hchk2
              rw [Bool.and_eq_true] at hchk2
              have hle := Nat.le_of_ble_eq_true hchk2.1
              have hlen := Nat.eq_of_beq_eq_true hchk2.2
              obtain ⟨H', h2, h3, h4⟩ := AH.newK_inv h1
              refine ⟨_, H', h2, AH.ok_new hok h3 h4, by omega, fun σ w ρ hS hr => hexec σ ρ w _ hr fun s' x' hs' hx' => ?_⟩
              obtain ⟨row', g1, g2⟩ := hnew σ w.drew x' hS.drew hx'
              cases hs'
              have hl := lenK_run (P := P) hn hx' w
              obtain ⟨cap, rest, q1, q2, q3⟩ := run_app_grow (ty := o.type) T (w := w) (a := none) (sLen := 0) (sCap := 0) hl (olds := []) rfl g1 (by omega) (by omega) hib
              obtain ⟨σ', r1, r2, r3, r4, r5⟩ := hS.new H.next (hok.2 _ (Nat.le_refl _)) hok.1 (some (i.size, (n + 1) * i.size)) e e new row' rest g2 (fun sz' e' he => by simp only [Option.some.injEq, Prod.mk.injEq] at he; rw [← he.2]; exact hlen) rfl nofun (Push.drew w (row' ++ rest) e)
              refine ⟨_, _, q3, σ', by rw [h4]; exact r1, by rw [h4]; exact r2, ?_⟩
              rw [h4]
              have hd : Hp.dom (Hp.set H.get H.next ⟨some (i.size, (n + 1) * i.size), .cells e new⟩) H.next = some (some (i.size, (n + 1) * i.size)) := by simp [Hp.dom, Hp.set_same]
              have := VR.sliceo (σ := σ') ⟨H.next, 0, none⟩ (n + 1) (n + 1) cap i.size ((n + 1) * i.size) hd rfl (by simp) (by
                show 0 + cap * i.size = σ'.cap H.next
                rw [r5, List.length_append, g2.length, hlen, q2]
                rw [hzs, Nat.zero_add, Nat.zero_add, ← Nat.add_mul]
                congr 1
                omega) (by omega)
              unfold Ren.addr at this
              simp only [r3, r4] at this
              simpa using this
            · cases h1
        · rename_i b off l m
          split at h1
          · -- room
            rename_i hroom
            have hroom' := Nat.le_of_ble_eq_true hroom
            obtain ⟨H', ii, TT, cs, cs2, h2, h3, h4, h5, h6, h7, h8, h9, h10, hro⟩ := storeRow_inv hok h1
            rw [natK_eq] at h2
            refine ⟨_, H', h2, h3, by omega, fun σ w ρ hS hr => hexec σ ρ w _ hr fun s' x' hs' hx' => ?_⟩
            obtain ⟨row', g1, g2⟩ := hnew σ w x' hS hx'
            obtain ⟨y, m', q1, q2, q3, q4⟩ := hs'.slice_inv
            obtain ⟨w', g3, g4, g5⟩ := hS.write hro h5 h7 h8 h9 h10 g2
            subst q3
            have hst : (storeCells (Addr.add ⟨σ.blk b, σ.sh b + off, none⟩ (l * i.size)) row').run P w = .ok () w' := by
              rw [add_addr _ _ rfl]
              rw [Nat.add_assoc]
              exact g3
            refine ⟨_, w', run_app_room (ty := o.type) T (lenK_run (P := P) hn hx' w) g1 (Nat.le_trans hroom' q2) hst, σ, by rw [h6]; exact g4, by rw [h6]; exact g5, ?_⟩
            rw [h6, show Hp.dom (Hp.set H.get b ⟨ii, .cells TT cs2⟩) = Hp.dom H.get from Hp.dom_set h5 rfl]
            rcases q4 with rfl | ⟨szb, eb, rfl, q5, q6⟩
            · exact .slice ⟨b, off, none⟩ _ _ y q1 rfl
            · exact .sliceo ⟨b, off, none⟩ _ _ _ szb eb q1 rfl q5 q6 q2
          · rename_i hroom
            have hroom' : ¬ l + n ≤ m := fun hh => by
              have := Nat.ble_eq_true_of_le hh
              rw [this] at hroom
              cases hroom
            split at h1
            · cases h1
            · rename_i hlim
              rw [Bool.and_eq_true] at hlim
              have hlim1 := Nat.le_of_ble_eq_true hlim.1
              have hlim2 := Nat.le_of_ble_eq_true hlim.2
              unfold firstK at h1
              simp only at h1
              split at h1
              · rename_i i0 TT cs hb0
                obtain ⟨hol, h2⟩ := rowK_inv h1
                rw [catK_eq] at h2
                split at h2
                · rename_i hall
                  rw [Bool.and_eq_true] at hall
                  have hlen := Nat.eq_of_beq_eq_true hall.1
                  have hones := hall.2
                  -- elsewhere
                  have moved : ∀ (H1 H' : AH), AH.ok P H1 → H1.next = H.next → Hp.dom H1.get = Hp.dom H.get → (∀ σ w, Sim P σ H.get w → Sim P σ H1.get w ∧ Fwd σ H.get w σ H1.get w) → H'.get = Hp.set H1.get H1.next ⟨some (i.size, (l + n) * i.size), .cells e ((cs.drop off).take (l * i.size) ++ new)⟩ →
                      ∀ σ w s' x' m', Sim P σ H.get w → VR σ (Hp.dom H.get) x x' → s' = .slice (some ⟨σ.blk b, σ.sh b + off, none⟩) l m' → ¬ l + n ≤ m' →
                      ∃ v' w', (Builtin.append_ ts o.type #[s', x']).run P w = .ok v' w' ∧ ∃ σ', Sim P σ' H'.get w' ∧ Fwd σ H.get w σ' H'.get w' ∧ VR σ' (Hp.dom H'.get) (.slice (some ⟨H1.next, 0, none⟩) (l + n) (l + n)) v' := by
                    intro H1 H' hok1 hnx hdom hk hg' σ w s' x' m' hS hx' hs' hno
                    subst hs'
                    obtain ⟨row', g1, g2⟩ := hnew σ w.drew x' hS.drew hx'
                    obtain ⟨olds, g3, g4⟩ := hS.drew.cells hb0 hol
                    obtain ⟨cap, rest, q1, q2, q3⟩ := run_app_grow (ty := o.type) T (w := w) (a := some ⟨σ.blk b, σ.sh b + off, none⟩) (sLen := l) (sCap := m') (lenK_run (P := P) hn hx' w) (olds := olds) (by simp only [Builtin.firstCells]; exact g3) g1 hno hlim1 hib
                    obtain ⟨hS1, hF1⟩ := hk σ w hS
                    have hvr : VRs σ (Hp.dom H1.get) ((cs.drop off).take (l * i.size) ++ new) (olds ++ row') := by rw [hdom]; exact g4.append g2
                    obtain ⟨σ', r1, r2, r3, r4, r5⟩ := hS1.new H1.next (hok1.2 _ (Nat.le_refl _)) hok1.1 (some (i.size, (l + n) * i.size)) e e _ (olds ++ row') rest hvr (fun sz' e' he => by simp only [Option.some.injEq, Prod.mk.injEq] at he; rw [← he.2]; exact hlen) rfl nofun (Push.drew w (olds ++ row' ++ rest) e)
                    refine ⟨_, _, q3, σ', by rw [hg']; exact r1, by rw [hg']; exact Fwd.trans hS hF1 r2, ?_⟩
                    rw [hg']
                    have hd : Hp.dom (Hp.set H1.get H1.next ⟨some (i.size, (l + n) * i.size), .cells e ((cs.drop off).take (l * i.size) ++ new)⟩) H1.next = some (some (i.size, (l + n) * i.size)) := by simp [Hp.dom, Hp.set_same]
                    have := VR.sliceo (σ := σ') ⟨H1.next, 0, none⟩ (l + n) (l + n) cap i.size ((l + n) * i.size) hd rfl (by simp) (by
                      show 0 + cap * i.size = σ'.cap H1.next
                      rw [r5, List.length_append, hvr.length, hlen, q2, hzs, Nat.zero_add, ← Nat.add_mul]
                      congr 1
                      omega) q1
                    unfold Ren.addr at this
                    simp only [r3, r4] at this
                    simpa using this
                  unfold killK at h2
                  split at h2
                  · rename_i sz' e0 t1 cs1 hb1
                    rw [hb0] at hb1
                    simp only [Option.some.injEq, Blk.mk.injEq, Body.cells.injEq] at hb1
                    obtain ⟨rfl, rfl, rfl⟩ := hb1
                    split at h2
                    · rename_i hsz hat
                      rw [Bool.and_eq_true] at hsz
                      have htT := Nat.eq_of_beq_eq_true hsz.2
                      have hsz' := Nat.eq_of_beq_eq_true hsz.1
                      subst hsz'
                      split at h2
                      · cases h2
                      rename_i hroB
                      rw [Bool.or_eq_false_iff] at hroB
                      have hoff : off = 0 := Nat.eq_of_beq_eq_true (by have := hroB.2; rw [Bool.not_eq_false'] at this; exact this)
                      have hro := roB_false hroB.1
                      have hsz0 : i.size ≠ 0 := fun e => hro e0 (by rw [e])
                      obtain ⟨H1, h3, h4, h5⟩ := AH.setK_inv h2
                      rw [natK_eq] at h3
                      obtain ⟨H', h6, h7, h8⟩ := AH.newK_inv h3
                      have hok1 : AH.ok P H1 := AH.ok_set hok hb0 h4 h5
                      refine ⟨_, H', h6, AH.ok_new hok1 h7 h8, by omega, fun σ w ρ hS hr => hexec σ ρ w _ hr fun s' x' hs' hx' => ?_⟩
                      obtain ⟨y, m', q1, q2, q3, q4⟩ := hs'.slice_inv
                      have hy : y = some (i.size, e0) := by
                        have := Hp.dom_some hb0
                        rw [q1] at this
                        exact Option.some.inj this
                      by_cases hin : l + n ≤ m'
                      · rcases q4 with q4 | ⟨szb, eb, q5, q6, q7⟩
                        · omega
                        · rw [hy] at q5
                          simp only [Option.some.injEq, Prod.mk.injEq] at q5
                          obtain ⟨rfl, rfl⟩ := q5
                          obtain ⟨row', g1, g2⟩ := hnew σ w x' hS hx'
                          have hfit : off + (l + n) * i.size ≤ σ.cap b := by rw [← q7]; exact Nat.add_le_add_left (Nat.mul_le_mul_right _ hin) _
                          obtain ⟨w', σ', r1, r2, r3, r4, r5, r6⟩ := hS.regrow (T := e) hsz0 hb0 (id := H.next) (hok.2 _ (Nat.le_refl _)) hok.1 hoff htT rfl hol hlen g2 hones hfit
                          subst q3
                          have hst : (storeCells (Addr.add ⟨σ.blk b, σ.sh b + off, none⟩ (l * i.size)) row').run P w = .ok () w' := by
                            rw [add_addr _ _ rfl]
                            rw [Nat.add_assoc]
                            exact r1
                          have hget : H'.get = (Hp.set H.get b ⟨some (i.size, e0), .dead⟩).set H.next ⟨some (i.size, (l + n) * i.size), .cells e ((cs.drop off).take (l * i.size) ++ new)⟩ := by rw [h8, h5, h4]
                          refine ⟨_, w', run_app_room (ty := o.type) T (lenK_run (P := P) hn hx' w) g1 hin hst, σ', by rw [hget]; exact r2, by rw [hget]; exact r3, ?_⟩
                          rw [hget, h4]
                          have hd : Hp.dom ((Hp.set H.get b ⟨some (i.size, e0), .dead⟩).set H.next ⟨some (i.size, (l + n) * i.size), .cells e ((cs.drop off).take (l * i.size) ++ new)⟩) H.next = some (some (i.size, (l + n) * i.size)) := by simp [Hp.dom, Hp.set_same]
                          have := VR.sliceo (σ := σ') ⟨H.next, 0, none⟩ (l + n) (l + n) m' i.size ((l + n) * i.size) hd rfl (by simp) (by
                            show 0 + m' * i.size = σ'.cap H.next
                            rw [r6]
                            omega) hin
                          unfold Ren.addr at this
                          simp only [r4, r5] at this
                          simpa using this
                      · exact moved H1 H' hok1 h4 (by rw [h5]; exact Hp.dom_set hb0 rfl) (fun σ w hS => by rw [h5]; exact hS.kill hro hb0) h8 σ w s' x' m' hS hx' q3 hin
                    · rename_i hsz hat
                      rw [Bool.and_eq_true] at hsz
                      have hsz' := Nat.eq_of_beq_eq_true hsz.1
                      subst hsz'
                      simp only [natK_eq] at h2
                      obtain ⟨H', h6, h7, h8⟩ := AH.newK_inv h2
                      refine ⟨_, H', h6, AH.ok_new hok h7 h8, by omega, fun σ w ρ hS hr => hexec σ ρ w _ hr fun s' x' hs' hx' => ?_⟩
                      obtain ⟨y, m', q1, q2, q3, q4⟩ := hs'.slice_inv
                      have hy : y = some (i.size, e0) := by
                        have := Hp.dom_some hb0
                        rw [q1] at this
                        exact Option.some.inj this
                      refine moved H H' hok rfl rfl (fun σ w hS => ⟨hS, .refl _ _ _⟩) h8 σ w s' x' m' hS hx' q3 ?_
                      rcases q4 with q4 | ⟨szb, eb, q5, q6, q7⟩
                      · omega
                      · rw [hy] at q5
                        simp only [Option.some.injEq, Prod.mk.injEq] at q5
                        obtain ⟨rfl, rfl⟩ := q5
                        rw [q6, Nat.beq_refl] at hat
                        cases hat
                    · cases h2
                  · rename_i t1 cs1 hb1
                    rw [hb0] at hb1
                    simp only [Option.some.injEq, Blk.mk.injEq, Body.cells.injEq] at hb1
                    obtain ⟨rfl, rfl, rfl⟩ := hb1
                    simp only [natK_eq] at h2
                    obtain ⟨H', h6, h7, h8⟩ := AH.newK_inv h2
                    refine ⟨_, H', h6, AH.ok_new hok h7 h8, by omega, fun σ w ρ hS hr => hexec σ ρ w _ hr fun s' x' hs' hx' => ?_⟩
                    obtain ⟨y, m', q1, q2, q3, q4⟩ := hs'.slice_inv
                    have hy : y = none := by
                      have := Hp.dom_some hb0
                      rw [q1] at this
                      exact Option.some.inj this
                    refine moved H H' hok rfl rfl (fun σ w hS => ⟨hS, .refl _ _ _⟩) h8 σ w s' x' m' hS hx' q3 ?_
                    rcases q4 with q4 | ⟨szb, eb, q5, q6, q7⟩
                    · omega
                    · rw [hy] at q5; cases q5
                  · cases h2
                · cases h2
              · cases h1
        · cases h1
      · cases h
    · cases hsm
  · cases h
end
end Go.Proofs.YtdcbnkimjhefkaaGreatDoor

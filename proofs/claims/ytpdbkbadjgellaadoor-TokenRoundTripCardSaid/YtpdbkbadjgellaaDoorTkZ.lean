/-
  The walk of the statements' sane and same.
-/
import Derived.Test.YtpdbkbadjgellaaDoorTkX
import Derived.KernelRfl
namespace Go.Proofs.YtpdbkbadjgellaaDoor
open Go.RowKit
attribute [local go_sem] ba_get ba_extract take_rest ba_append
attribute [local go_sem ↓] run_eql_tok run_neq_tok

def saneText : List UInt8 := [97, 60, 61, 50, 53, 37, 32, 50, 48, 50, 54, 45, 48, 49, 45, 48, 49, 32, 35, 32, 120]
def saneToks : List Tk.Tok := [{ kind := 1, text := [97], place := 0 }, { kind := 4, text := [60, 61], place := 1 }, { kind := 2, num := 1, den := 4, place := 3 }, { kind := 3, day := 20454, place := 7 }]
theorem sane1 : Tk.scan saneText = .ok saneToks := by kernel_rfl
theorem sane2 : Tk.scan [50, 48, 50, 54, 32, 45, 32, 48, 49] = .error (7, 6) := by kernel_rfl
theorem sane3 : Tk.isName [97, 95, 49] = true := by kernel_rfl
theorem sane4 : Tk.isName [105, 102] = false := by kernel_rfl
theorem sane5 : Tk.isKey [105, 102] = true := by kernel_rfl
theorem sane6 : validTok ⟨1, [97], 0, 0, 0, 0⟩ = true := by kernel_rfl
theorem sane7 : textAll saneToks = [97, 32, 60, 61, 32, 48, 46, 50, 53, 32, 50, 48, 50, 54, 45, 48, 49, 45, 48, 49] := by kernel_rfl

/-- Two lists of tokens can be held against each other. -/
instance : DecidableEq Tk.Tok := fun t u => decidable_of_iff _ (tokEq_iff t u)
/-- A slice of tokens, one cell of one token. -/
theorem TokRow.at_ {w : World} {v : Value} {ts : List Tk.Tok} (h : TokRow w v ts) (hn : 0 < ts.length) :
    ∃ g off c, v = .slice (some ⟨g, off, none⟩) ts.length c ∧ ∀ i (h : i < ts.length) j u, (tokCells ts[i])[j]? = some u → w.cell? ⟨g, off + i * 6 + j, none⟩ = some u := by
  obtain ⟨A, c, rfl, hA⟩ := h
  obtain ⟨g, off, rfl, hc⟩ := hA hn
  exact ⟨g, off, c, rfl, hc⟩

set_option maxHeartbeats 2000000 in
set_option maxRecDepth 100000 in
theorem sane_any (w : World) (hl : Lens w) (hp : Pow w) :
    Calls Tryd.prog 9 #[] w fun e w' => e = .returned (.bool true) ∧ Below w.heap.size w w' := by
  have HL := Lib.hid hl
  have HP := Lib.hid hp
  clear hl hp
  go_enter Tryd.func9, Tryd.ntmps9
  go_wp2_with fail
  refine (scan_any saneText _ (by decide) HL.out).mono ?_
  rintro e w1 ⟨hb1, h1⟩
  rw [sane1] at h1
  obtain ⟨v, rfl, hown⟩ := h1
  have hrow := TokRow.of_own hown
  clear hown
  have hz1 := hb1.size
  go_wp2_with fail
  refine (scan_any [50, 48, 50, 54, 32, 45, 32, 48, 49] _ (by decide) (HL.out.below hb1)).mono ?_
  rintro e w2 ⟨hb2, h2⟩
  rw [sane2] at h2
  obtain rfl := h2
  have hB2 : Below w.heap.size w w2 := hb1.trans (hb2.mono hz1)
  have hz2 := hB2.size
  have hrow2 := hrow.below hb2
  have HR := Lib.hid hrow2
  obtain ⟨g, off, c, rfl, hc⟩ := hrow2.at_ (by decide)
  have c00 := hc 0 (by decide) 0 _ rfl
  have c01 := hc 0 (by decide) 1 _ rfl
  have c02 := hc 0 (by decide) 2 _ rfl
  have c03 := hc 0 (by decide) 3 _ rfl
  have c04 := hc 0 (by decide) 4 _ rfl
  have c05 := hc 0 (by decide) 5 _ rfl
  have c11 := hc 1 (by decide) 1 _ rfl
  have c22 := hc 2 (by decide) 2 _ rfl
  have c23 := hc 2 (by decide) 3 _ rfl
  have c34 := hc 3 (by decide) 4 _ rfl
  simp only [Nat.zero_mul, Nat.add_zero, Nat.one_mul, saneToks, List.getElem_cons_zero, List.getElem_cons_succ] at c00 c01 c02 c03 c04 c05 c11 c22 c23 c34
  have HR2 : Hid (TokRow w2 (.slice (some ⟨g, off, none⟩) 4 c) saneToks) := HR.out
  rw [show saneToks.length = 4 from rfl]
  clear hc hrow hrow2 HR
  go_wp2_with fail
  refine (isName_any [97, 95, 49] _ (by decide)).mono ?_
  rintro e w' ⟨rfl, rfl⟩
  rw [sane3]
  go_wp2_with fail
  refine (isName_any [105, 102] _ (by decide)).mono ?_
  rintro e w' ⟨rfl, rfl⟩
  rw [sane4]
  go_wp2_with fail
  refine (isKeyword_any [105, 102] _).mono ?_
  rintro e w' ⟨rfl, rfl⟩
  rw [sane5]
  go_wp2_with fail
  refine (text_any _ saneToks _ HR2.out (by decide) (by decide) (HL.out.below hB2) (HP.out.below hB2)).mono ?_
  rintro e w3 ⟨rfl, hb3⟩
  rw [sane7]
  have hB3 : Below w.heap.size w w3 := hB2.trans (hb3.mono hz2)
  obtain ⟨g', off', c', e', hc⟩ := (HR2.out.below hb3).at_ (by decide)
  simp only [Value.slice.injEq, Option.some.injEq, Addr.mk.injEq, and_true] at e'
  obtain ⟨⟨rfl, rfl⟩, h4, rfl⟩ := e'
  clear h4
  have d00 := hc 0 (by decide) 0 _ rfl
  have d01 := hc 0 (by decide) 1 _ rfl
  have d02 := hc 0 (by decide) 2 _ rfl
  have d03 := hc 0 (by decide) 3 _ rfl
  have d04 := hc 0 (by decide) 4 _ rfl
  have d05 := hc 0 (by decide) 5 _ rfl
  simp only [Nat.zero_mul, Nat.add_zero, saneToks, List.getElem_cons_zero] at d00 d01 d02 d03 d04 d05
  clear hc c00 c01 c02 c03 c04 c05 c11 c22 c23 c34
  go_wp2_with fail
  refine (valid_any ⟨1, [97], 0, 0, 0, 0⟩ _ (by decide)).mono ?_
  rintro e w4 ⟨rfl, hb4⟩
  rw [sane6]
  have hB4 : Below w.heap.size w w4 := hB3.trans (hb4.mono hB3.size)
  go_wp2_with fail
  go_ret
  exact ⟨rfl, hB4⟩

set_option maxHeartbeats 1000000 in
set_option maxRecDepth 100000 in
theorem same_any (v u : Value) (ts us : List Tk.Tok) (w : World) (hv : TokRow w v ts) (hu : TokRow w u us) (hn : ts.length ≤ 100000) (hm : us.length ≤ 100000) :
    Calls Tryd.prog 16 #[v, u] w fun e w' => e = .returned (.bool (decide (ts = us))) ∧ ∃ n, w' = w.drewN n := by
  have HV := Lib.hid hv
  have HU := Lib.hid hu
  obtain ⟨A, c, rfl, _⟩ := hv
  obtain ⟨B, d, rfl, _⟩ := hu
  by_cases hl : ts.length = us.length
  · have g : ((ts.length : Int) != us.length) = false := by simp; omega
    have HE := Lib.hid hl
    clear hl
    go_enter Tryd.func16, Tryd.ntmps16
    go_wp2_with fail
    clear g
    go_loopw [5] (fun i wr => ∃ k n : Nat, k ≤ ts.length ∧ i = .int .i64 k ∧ Hid (ts.take k = us.take k) ∧ wr = w.drewN n) (fun i _ => ts.length - (intOf i).toNat)
    case atStart => exact ⟨0, 0, Nat.zero_le _, rfl, rfl, rfl⟩
    case round =>
      obtain ⟨k, n, hk, rfl, HT, rfl⟩ := hrel
      by_cases hlt : k < ts.length
      · have hlu : k < us.length := by have := HE.out; omega
        obtain ⟨g1, o1, c1, e1, h1⟩ := HV.out.at_ (by omega)
        obtain ⟨g2, o2, c2, e2, h2⟩ := HU.out.at_ (by omega)
        simp only [Value.slice.injEq] at e1 e2
        obtain ⟨rfl, h3, rfl⟩ := e1
        obtain ⟨rfl, h4, rfl⟩ := e2
        clear h3 h4
        have h1 := h1 k hlt
        have h2 := h2 k hlu
        obtain ⟨t1, t2, t3, t4, t5, t6, ht⟩ : ∃ t1 t2 t3 t4 t5 t6, ts[k] = ⟨t1, t2, t3, t4, t5, t6⟩ := ⟨_, _, _, _, _, _, rfl⟩
        obtain ⟨s1, s2, s3, s4, s5, s6, hs⟩ : ∃ s1 s2 s3 s4 s5 s6, us[k] = ⟨s1, s2, s3, s4, s5, s6⟩ := ⟨_, _, _, _, _, _, rfl⟩
        rw [ht] at h1
        rw [hs] at h2
        have a0 := h1 0 _ rfl
        have a1 := h1 1 _ rfl
        have a2 := h1 2 _ rfl
        have a3 := h1 3 _ rfl
        have a4 := h1 4 _ rfl
        have a5 := h1 5 _ rfl
        have b0 := h2 0 _ rfl
        have b1 := h2 1 _ rfl
        have b2 := h2 2 _ rfl
        have b3 := h2 3 _ rfl
        have b4 := h2 4 _ rfl
        have b5 := h2 5 _ rfl
        simp only [Nat.add_zero] at a0 b0
        clear h1 h2
        by_cases heq : ts[k] = us[k]
        · have HT2 : Hid (ts.take (k + 1) = us.take (k + 1)) := by
            show _ = _
            rw [List.take_succ_eq_append_getElem hlt, List.take_succ_eq_append_getElem hlu, HT.out, heq]
          rw [ht, hs] at heq
          injection heq with q1 q2 q3 q4 q5 q6
          subst q1 q2 q3 q4 q5 q6
          clear ht hs
          go_wp2_with fail
          go_quiet (fail)
          go_wp2_with fail
          go_roundw
          case rel => exact ⟨k + 1, _, by omega, by go_num, HT2, rfl⟩
          case measure => simp [intOf]; omega
        · have HF : Hid (decide (ts = us) = false) := by
            show _ = _
            rw [decide_eq_false_iff_not]
            rintro rfl
            exact heq rfl
          have gq : (t1 == s1 && (t2 == s2 && ((t3 == s3 && t4 == s4) && (t5 == s5 && t6 == s6)))) = false := by
            have h : tokEq ts[k] us[k] = false := by rw [Bool.eq_false_iff]; exact fun h => heq ((tokEq_iff _ _).1 h)
            rw [ht, hs] at h
            exact h
          clear ht hs heq
          go_wp2_with fail
          go_quiet (fail)
          go_wp2_with fail
          go_ret
          exact ⟨ret_bool HF.out.symm, _, World.drewN_drewN _ _ _⟩
      · have HF : Hid (decide (ts = us) = true) := by
          show _ = _
          rw [decide_eq_true_iff]
          have := HT.out
          have he := HE.out
          rwa [List.take_of_length_le (by omega), List.take_of_length_le (by omega)] at this
        go_wp2_with fail
        go_ret
        exact ⟨ret_bool HF.out.symm, _, rfl⟩
  · have g : ((ts.length : Int) != us.length) = true := by simp; omega
    have HF : Hid (decide (ts = us) = false) := by
      show _ = _
      rw [decide_eq_false_iff_not]
      rintro rfl
      exact hl rfl
    clear hl
    go_enter Tryd.func16, Tryd.ntmps16
    go_wp2_with fail
    go_ret
    exact ⟨ret_bool HF.out.symm, 0, rfl⟩
end Go.Proofs.YtpdbkbadjgellaaDoor

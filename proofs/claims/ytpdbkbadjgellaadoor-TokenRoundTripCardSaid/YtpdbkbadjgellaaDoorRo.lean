/-
  The walk of TokenRoundTrip.
-/
import Derived.Test.YtpdbkbadjgellaaDoorRoP
import Derived.Test.YtpdbkbadjgellaaDoorRs
import Derived.Test.YtpdbkbadjgellaaDoorQt
import Derived.Laws.AppendOwnNone
namespace Go.Proofs.YtpdbkbadjgellaaDoor
open Go.RowKit
attribute [local go_sem] ba_get ba_extract take_rest ba_append
attribute [local go_sem ↓] run_eql_tok run_neq_tok

namespace Tk
theorem after_ne (ts : List Tok) (x : Except (Nat × Int) (List Tok)) (h : outE x ≠ 0 ∨ ∃ us, x = .ok us) : outE (after ts x) ≠ 0 ∨ ∃ us, after ts x = .ok us := by
  cases x with
  | error e => rcases h with h | ⟨us, h⟩
               · exact .inl h
               · cases h
  | ok us => exact .inr ⟨_, rfl⟩
theorem scanAt_ne (n p : Nat) (x : List UInt8) (hn : x.length ≤ n) : outE (scanAt p x) ≠ 0 ∨ ∃ us, scanAt p x = .ok us := by
  induction n generalizing p x with
  | zero =>
    have : x = [] := List.eq_nil_of_length_eq_zero (by omega)
    subst this
    exact .inr ⟨_, rfl⟩
  | succ n ih =>
    rw [scanAt_eq]
    split
    · exact .inr ⟨_, rfl⟩
    · cases hx : readTok (x.drop (skipN false x)) with
      | error e => exact .inl (read_err _ _ hx)
      | ok y =>
        obtain ⟨t, m⟩ := y
        have hm := read_len _ _ _ hx
        simp only [List.length_drop] at hm
        exact after_ne _ _ (ih _ _ (by simp; omega))
theorem scan_ne (x : List UInt8) : outE (scan x) ≠ 0 ∨ ∃ us, scan x = .ok us := by
  unfold scan
  split
  · exact .inl (by decide)
  · exact scanAt_ne x.length 0 x (Nat.le_refl _)
end Tk

theorem TapeOk.grown {b : Nat} {ns : List Int} {w w' : World} {row : Option Nat} (h : TapeOk b ns w) (hg : w.grownBy w' row) (hr : ∀ k, row = some k → b < k) : TapeOk b ns w' := by
  have hlt := h.lt
  have hk : ∀ g, g ≤ b → w'.heap[g]? = w.heap[g]? := fun g hgb => hg.block g (by omega) (fun e => by have := hr g e.symm; omega)
  obtain ⟨v, k, hkn, hc, hi⟩ := h
  exact ⟨v, k, hkn, (hk b (Nat.le_refl _)).trans hc, hi.keep (fun g hg => hk g (by omega))⟩
theorem toks_all {a b : List Tk.Tok} (ha : a.all tokOk = true) (hb : b.all tokOk = true) : (a ++ b).all tokOk = true := by rw [List.all_append, ha, hb]; rfl
theorem toksCells_append (a b : List Tk.Tok) : toksCells (a ++ b) = toksCells a ++ toksCells b := by simp [toksCells]
theorem toksCells_one (ts : List Tk.Tok) : ∀ u ∈ toksCells ts, u.oneCell' = true := by
  intro u hu
  simp only [toksCells, List.mem_flatMap] at hu
  obtain ⟨t, _, ht⟩ := hu
  exact tokCells_one t u ht
theorem toksCells_len (ts : List Tk.Tok) : (toksCells ts).length = ts.length * 6 := by
  induction ts with
  | nil => rfl
  | cons t ts ih => simp only [toksCells, List.flatMap_cons, List.length_append, List.length_cons] at ih ⊢; rw [ih]; simp [tokCells]; omega

theorem two_blocks (w : World) (cs : Array Value) (T : TypeId) : ((w.alloc (.cells cs T)).alloc (.cells cs T)).drew.heap[w.heap.size]? = some (.cells cs T (0, 0)) ∧ ((w.alloc (.cells cs T)).alloc (.cells cs T)).drew.heap[w.heap.size + 1]? = some (.cells cs T (0, 0)) ∧ Below w.heap.size w ((w.alloc (.cells cs T)).alloc (.cells cs T)).drew := by
  refine ⟨(Below.heap_alloc (w.alloc _) _ _ (by simp)).trans (heap_alloc_new w _), ?_, (((Below.refl _ _).alloc (Nat.le_refl _) _).alloc (by simp) _).drew⟩
  have := heap_alloc_new (w.alloc (.cells cs T)) (.cells cs T)
  rw [World.size_alloc] at this
  exact this
theorem round_law2 (L : List Tk.Tok) (h : L.all tokOk = true) (hn : L.length ≤ 40) :
    (textAll L).length ≤ 16384 ∧ ∃ M : List Tk.Tok, M.length = L.length ∧ Tk.scan (textAll L) = .ok M ∧ (∀ t ∈ M, 0 ≤ t.place ∧ t.place ≤ 16384) ∧
      (∀ i (h : i < L.length) (h' : i < M.length), ∃ q : Nat, M[i] = { L[i] with place := (q : Int) }) ∧ (∀ i (h : i + 1 < M.length), M[i].place < M[i + 1].place) := by
  obtain ⟨h1, h2, h3⟩ := round_law L h hn
  refine ⟨h1, Tk.placed textOf 0 L, Tk.placed_length _ _ _, h2, h3, fun i hi _ => ?_, fun i hi => ?_⟩
  · obtain ⟨q, _, hq⟩ := Tk.placed_at textOf 0 L i hi
    exact ⟨q, hq⟩
  · exact Tk.placed_up textOf 0 L i (by rw [Tk.placed_length] at hi; exact hi)

set_option maxHeartbeats 4000000 in
set_option maxRecDepth 100000 in
theorem round_any (v : Value) (ns : List Int) (w : World) (hi : IntsAt w w.heap.size v ns) (hl : Lens w) (hp : Pow w) :
    Calls Tryd.prog 4 #[v] w fun e w' => e = .returned (.bool true) ∧ Below w.heap.size w w' := by
  have HL := Lib.hid hl
  have HP := Lib.hid hp
  have HI := Lib.hid hi
  obtain ⟨i0, hif, hz0, hz1, hz2⟩ := info_parts infoTok
  clear hl hp hi
  go_enter Tryd.func4, Tryd.ntmps4
  go_wp2_with fail
  refine (tapeNew_any v ns w HI.out).mono ?_
  rintro e w1 ⟨rfl, hT1, hzz1, hB1⟩
  have HT1 := Lib.hid hT1
  clear hT1 HI
  go_wp2_with fail
  refine (next_any w.heap.size ns 9 w1 HT1.out (by omega) (by omega)).mono ?_
  rintro e w2 ⟨k, hk, rfl, hT2, hb2⟩
  have hB2 : Below w.heap.size w w2 := hB1.trans (hb2.below (Nat.le_refl _) (by omega))
  have hzz2 : w.heap.size < w2.heap.size := Nat.lt_of_lt_of_le hzz1 hb2.size
  have HT2 := Lib.hid hT2
  have hk8 : k ≤ 8 := by omega
  clear hT2 HT1 hb2 hB1 hzz1 hk
  go_wp2_with fail
  go_loopw [4, 5] (fun s4 s5 wr => ∃ (n : Nat) (L : List Tk.Tok), n ≤ 8 ∧ s5 = .int .i64 n ∧ L.length + 5 * n ≤ 40 ∧ Hid (L.all tokOk = true) ∧ wr.ownsRow (w.heap.size + 1) 39 6 s4 L.length (toksCells L) ∧
    Hid (TapeOk w.heap.size ns wr) ∧ Below w.heap.size w wr ∧ w.heap.size < wr.heap.size) (fun _ i _ => (intOf i).toNat)
  case atStart => exact ⟨k, [], hk8, rfl, by simp; omega, rfl, ⟨by simp [toksCells], .inl ⟨rfl, rfl⟩⟩, HT2, hB2, hzz2⟩
  case round =>
    obtain ⟨n, L, hn8, rfl, hLn, HLo, hown, HT, hbl, hsz⟩ := hrel
    by_cases hn0 : 0 < n
    · go_wp2_with fail
      refine (piece_any w.heap.size ns wr HT.out).mono ?_
      rintro e w3 ⟨x, hx, rfl, hT3, hb3⟩
      have hT3' := hT3
      have HT3 := Lib.hid hT3
      have hown3 := owns_but hown hb3 (fun k hk => by have := own_ge hown hk; omega)
      have hbl3 : Below w.heap.size w w3 := hbl.trans (hb3.below (Nat.le_refl _) (by omega))
      have hsz3 : w.heap.size < w3.heap.size := Nat.lt_of_lt_of_le hsz hb3.size
      obtain ⟨hxo, hxn⟩ := piece_toks hx
      have hxs := pieces_short x hx
      have HXo := Lib.hid hxo
      clear hT3 hT3' hown hbl hsz hb3 HT hx hxo
      go_wp2_with fail
      refine (rscan_any x w3 (by unfold maxLen; omega)).mono ?_
      rintro e w4 ⟨hb4, h4⟩
      have hown4 := owns_below hown3 hb4
      have HT4 := Lib.hid (HT3.out.below hb4)
      have hbl4 : Below w.heap.size w w4 := hbl3.trans (hb4.mono (by omega))
      have hsz4 : w.heap.size < w4.heap.size := Nat.lt_of_lt_of_le hsz3 hb4.size
      clear hown3 HT3 hbl3
      have hne := Tk.scan_ne x
      cases hr : Tk.scan x with
      | error y =>
        obtain ⟨a, e⟩ := y
        rw [hr] at h4 hne
        obtain rfl := h4
        have he : e ≠ 0 := by
          rcases hne with h | ⟨us, h⟩
          · exact h
          · cases h
        have ge : (e == 0) = false := by simpa using he
        clear hr hne he HXo hxn hb4
        go_wp2_with fail
        go_roundw
        case rel => exact ⟨n - 1, L, by omega, by go_num, by omega, HLo, hown4, HT4, hbl4, hsz4⟩
        case measure => simp [intOf]; omega
      | ok ts =>
        rw [hr] at h4 HXo hxn
        obtain ⟨u, rfl, hsrc⟩ := h4
        have hxn' : ts.length ≤ 5 := hxn
        have HXt : Hid (ts.all tokOk = true) := HXo.out
        clear hr hne HXo hxn hb4
        rcases hsrc.2 with ⟨rfl, h0⟩ | ⟨g, cap, cur, rfl, hg⟩
        · go_wp2_with (at_builtin; refine wpList_append_own_none rfl _ _ 24 rfl (w.heap.size + 1) 39 i0 6 Tryd.underlying24 hif _ _ _ rfl hown4 rfl ?_)
          go_roundw
          case rel => exact ⟨n - 1, L, by omega, by go_num, by omega, HLo, hown4, HT4, hbl4, hsz4⟩
          case measure => simp [intOf]; omega
        · have hcells : ∀ j u, (toksCells ts)[j]? = some u → w4.cell? ((⟨g, 0, none⟩ : Addr).add j) = some u := by
            intro j u hj
            have hjl : j < (toksCells ts).length := by
              rcases Nat.lt_or_ge j (toksCells ts).length with h | h
              · exact h
              · rw [List.getElem?_eq_none h] at hj; cases hj
            rw [← hj, ← hsrc.cellAt j (by rw [toksCells_len] at hjl; exact hjl)]
            rw [Go.WideShapes.add_plain, Nat.zero_add]
          have HC := Lib.hid hcells
          clear hcells hsrc hg
          go_wp2_with (at_builtin; refine wpList_append_own _ rfl _ _ 24 rfl (w.heap.size + 1) 39 i0 (.agg #[.int .i64 0, .string ⟨#[]⟩, .int .i64 0, .int .i64 0, .int .i64 0, .int .i64 0]) 6 56 Tryd.underlying24 hif hz0 hz1 hz2 rfl (by decide) _ _ _ rfl hown4 ⟨g, 0, none⟩ ts.length cap (toksCells ts) rfl ?c0 ?c1 ?c2 ?c3 ?c4 ?c5 ?_)
          case c0 => exact toksCells_len ts
          case c1 => exact HC.out
          case c2 => exact toksCells_one ts
          case c3 => unfold maxLen; omega
          case c4 => omega
          case c5 => omega
          intro v' w5 hown5 hg5 _
          have HT5 := Lib.hid (HT4.out.grown hg5 (fun k hk => by have := own_ge hown4 hk; omega))
          have hbl5 : Below w.heap.size w w5 := hbl4.grown hg5 (by omega) (fun k hk => by have := own_ge hown4 hk; omega)
          have hsz5 : w.heap.size < w5.heap.size := Nat.lt_of_lt_of_le hsz4 hg5.size
          clear hg5 hown4 HC
          go_wp2_with fail
          go_roundw
          case rel => exact ⟨n - 1, L ++ ts, by omega, by go_num, by simp; omega, toks_all HLo.out HXt.out, by rw [toksCells_append, List.length_append]; exact hown5, HT5, hbl5, hsz5⟩
          case measure => simp [intOf]; omega
    · have hrow := TokRow.of_own hown
      obtain ⟨hl1, M, hM, hs1, hpl1, hAt, hUp⟩ := round_law2 L HLo.out (by omega)
      have HAt := Lib.hid hAt
      have HUp := Lib.hid hUp
      have HM := Lib.hid hM
      have HS1 := Lib.hid hs1
      have HPl := Lib.hid hpl1
      have HRow := Lib.hid hrow
      have hnz : n = 0 := by omega
      obtain ⟨A, cA, hu4, _⟩ := hrow
      subst hnz
      subst hu4
      have hLn' : L.length ≤ 40 := by omega
      clear hs1 hpl1 hown HT hn8 hLn hM hAt hUp
      go_wp2_with fail
      refine (text_any _ L wr HRow.out (by omega) (fun t ht => Nat.le_trans (tokOk_parts (List.all_eq_true.1 HLo.out t ht)).2.2 (by decide)) (HL.out.below hbl) (HP.out.below hbl)).mono ?_
      rintro e w3 ⟨rfl, hb3⟩
      have hbl3 : Below w.heap.size w w3 := hbl.trans (hb3.mono (by omega))
      have HR3 := Lib.hid (HRow.out.below hb3)
      clear HRow hb3 hbl
      go_wp2_with fail
      refine (scan_any (textAll L) w3 (by unfold maxLen; omega) (HL.out.below hbl3)).mono ?_
      rintro e w4 ⟨hb4, h4⟩
      rw [HS1.out] at h4
      obtain ⟨u, rfl, hown4⟩ := h4
      have hrow4 := TokRow.of_own hown4
      have HR4 := Lib.hid (HR3.out.below hb4)
      have hbl4 : Below w.heap.size w w4 := hbl3.trans (hb4.mono hbl3.size)
      clear HS1 HR3 hbl3 hb4 hown4
      have HRM := Lib.hid hrow4
      obtain ⟨B, cB, rfl, _⟩ := hrow4
      rw [HM.out] at HRM
      rw [HM.out]
      go_wp2_with fail
      go_loopw [12] (fun i wr => ∃ k : Nat, k ≤ L.length ∧ i = .int .i64 k ∧ Below w4.heap.size w4 wr) (fun i _ => L.length - (intOf i).toNat)
      case atStart => exact ⟨0, Nat.zero_le _, rfl, Below.refl _ _⟩
      case round =>
        obtain ⟨k, hk, rfl, hb⟩ := hrel
        by_cases hlt : k < L.length
        · have hlm : k < M.length := by rw [HM.out]; exact hlt
          obtain ⟨g1, o1, c1, e1, h1⟩ := (HR4.out.below hb).at_ (by omega)
          obtain ⟨g2, o2, c2, e2, h2⟩ := (HRM.out.below hb).at_ (by omega)
          simp only [Value.slice.injEq] at e1 e2
          obtain ⟨rfl, h3, rfl⟩ := e1
          obtain ⟨rfl, h4, rfl⟩ := e2
          clear h3 h4
          have HH2 := Lib.hid h2
          replace h1 := h1 k hlt
          replace h2 := h2 k hlm
          obtain ⟨q, hq⟩ := HAt.out k hlt hlm
          rw [hq] at h2
          have hqb := HPl.out M[k] (List.getElem_mem _)
          rw [hq] at hqb
          have hvt := (tokOk_parts (List.all_eq_true.1 HLo.out L[k] (List.getElem_mem _)))
          have hval := valid_place hvt.1 q hqb.1 hqb.2
          have htl := hvt.2.2
          obtain ⟨t1, t2, t3, t4, t5, t6, ht⟩ : ∃ t1 t2 t3 t4 t5 t6, L[k] = ⟨t1, t2, t3, t4, t5, t6⟩ := ⟨_, _, _, _, _, _, rfl⟩
          rw [ht] at h1 h2 hval htl
          have HVal : Hid (validTok ⟨t1, t2, t3, t4, t5, q⟩ = true) := hval
          simp only at htl
          have a0 := h1 0 _ rfl
          have a1 := h1 1 _ rfl
          have a2 := h1 2 _ rfl
          have a3 := h1 3 _ rfl
          have a4 := h1 4 _ rfl
          have a5 := h1 5 _ rfl
          have b0 := h2 0 _ rfl
          have b1 := h2 1 _ rfl
          have b2 := h2 2 _ rfl
          have b3 := h2 3 _ rfl
          have b4 := h2 4 _ rfl
          have b5 := h2 5 _ rfl
          simp only [Nat.add_zero] at a0 b0 b1 b2 b3 b4 b5
          have hg1 := World.block_lt_of_cell? _ _ a0
          have hg2 := World.block_lt_of_cell? _ _ b0
          simp only at hg1 hg2
          have HQ := Lib.hid hq
          clear h1 h2 ht hvt hval hqb hq
          have hsz := hb.size
          go_wp2_with fail
          go_region
          all_goals
            go_wp2_with fail
            obtain ⟨hp6, hq6, hBW⟩ := two_blocks wr (#[.int .i64 t1, .string ⟨t2.toArray⟩, .int .i64 t3, .int .i64 t4, .int .i64 t5, .int .i64 0]) 39
            generalize ((wr.alloc (.cells #[.int .i64 t1, .string ⟨t2.toArray⟩, .int .i64 t3, .int .i64 t4, .int .i64 t5, .int .i64 0] 39)).alloc (.cells #[.int .i64 t1, .string ⟨t2.toArray⟩, .int .i64 t3, .int .i64 t4, .int .i64 t5, .int .i64 0] 39)).drew = w7 at *
            obtain ⟨p0, p1, p2, p3, p4, p5, _⟩ := blk6 hp6
            obtain ⟨q0, q1, q2, q3, q4, q5, _⟩ := blk6 hq6
            have gp0 := fun x : Grw w7 => Grw.cell p0 x
            have gp1 := fun x : Grw w7 => Grw.cell p1 x
            have gp2 := fun x : Grw w7 => Grw.cell p2 x
            have gp3 := fun x : Grw w7 => Grw.cell p3 x
            have gp4 := fun x : Grw w7 => Grw.cell p4 x
            have gp5 := fun x : Grw w7 => Grw.cell p5 x
            have gq0 := fun x : Grw w7 => Grw.cell q0 x
            have gq1 := fun x : Grw w7 => Grw.cell q1 x
            have gq2 := fun x : Grw w7 => Grw.cell q2 x
            have gq3 := fun x : Grw w7 => Grw.cell q3 x
            have gq4 := fun x : Grw w7 => Grw.cell q4 x
            have gq5 := fun x : Grw w7 => Grw.cell q5 x
            have gb0 := fun x : Grw w7 => Grw.cell ((hBW.cell hg2).trans b0) x
            have gb1 := fun x : Grw w7 => Grw.cell ((hBW.cell hg2).trans b1) x
            have gb2 := fun x : Grw w7 => Grw.cell ((hBW.cell hg2).trans b2) x
            have gb3 := fun x : Grw w7 => Grw.cell ((hBW.cell hg2).trans b3) x
            have gb4 := fun x : Grw w7 => Grw.cell ((hBW.cell hg2).trans b4) x
            have gb5 := fun x : Grw w7 => Grw.cell ((hBW.cell hg2).trans b5) x
            have hbW2 : Below w4.heap.size w4 w7 := hb.trans (hBW.mono hsz)
            clear hp6 hq6 p0 p1 p2 p3 p4 p5 q0 q1 q2 q3 q4 q5 a0 a1 a2 a3 a4 a5 b0 b1 b2 b3 b4 b5 hb
            by_cases hk0 : k = 0
            · subst hk0
              clear HH2
              simp only [Nat.zero_mul, Nat.add_zero] at gb0 gb1 gb2 gb3 gb4 gb5
              refine region_grow (by kernel_rfl) (by kernel_rfl) ?_
              repeat (first | go_big_quiet_skip | (go_big_quiet_want; go_big_quiet_op; go_big_quiet_on))
              go_big_quiet_want
              go_big_quiet_op
              refine ⟨.bool true, fun x => x.call (by rw [← HVal.out]; exact valid_any ⟨t1, t2, t3, t4, t5, q⟩ x.v (Nat.le_trans htl (by decide))), ?_⟩
              go_big_quiet_on
              repeat (first | go_big_quiet_skip | (go_big_quiet_want; go_big_quiet_op; go_big_quiet_on))
              refine wpQuiet_nil ?_
              rintro _ ⟨x, rfl⟩
              have hbx : Below w4.heap.size w4 x.v := hbW2.trans (x.h.mono hbW2.size)
              clear gp0 gp1 gp2 gp3 gp4 gp5 gq0 gq1 gq2 gq3 gq4 gq5 gb0 gb1 gb2 gb3 gb4 gb5
              generalize x.v = w9 at *
              go_wp2_with fail
              go_roundw
              case rel => exact ⟨1, by omega, by go_num, hbx⟩
              case measure => simp [intOf]; omega
            · obtain ⟨j, rfl⟩ : ∃ j, k = j + 1 := ⟨k - 1, by omega⟩
              have hup := HUp.out j hlm
              rw [HQ.out] at hup
              simp only at hup
              have hcp := HH2.out j (by omega) 5 _ rfl
              have gr := fun x : Grw w7 => Grw.cell ((hBW.cell hg2).trans hcp) x
              generalize M[j].place = q' at *
              have gle : decide ((q : Int) ≤ q') = false := by simp; omega
              clear HH2 hcp hk0
              refine region_grow (by kernel_rfl) (by kernel_rfl) ?_
              repeat (first | go_big_quiet_skip | (go_big_quiet_want; go_big_quiet_op; go_big_quiet_on))
              go_big_quiet_want
              go_big_quiet_op
              refine ⟨.bool true, fun x => x.call (by rw [← HVal.out]; exact valid_any ⟨t1, t2, t3, t4, t5, q⟩ x.v (Nat.le_trans htl (by decide))), ?_⟩
              go_big_quiet_on
              repeat (first | go_big_quiet_skip | (go_big_quiet_want; go_big_quiet_op; go_big_quiet_on))
              refine wpQuiet_nil ?_
              rintro _ ⟨x, rfl⟩
              have hbx : Below w4.heap.size w4 x.v := hbW2.trans (x.h.mono hbW2.size)
              clear gp0 gp1 gp2 gp3 gp4 gp5 gq0 gq1 gq2 gq3 gq4 gq5 gb0 gb1 gb2 gb3 gb4 gb5 gr gle
              generalize x.v = w9 at *
              go_wp2_with fail
              go_roundw
              case rel => exact ⟨j + 1 + 1, by omega, by go_num, hbx⟩
              case measure => simp [intOf]; omega
        · go_wp2_with fail
          have hB10 : Below w.heap.size w wr := hbl4.trans (hb.mono hbl4.size)
          refine (sane_any wr (HL.out.below hB10) (HP.out.below hB10)).mono ?_
          rintro e w11 ⟨rfl, hb11⟩
          go_wp2_with fail
          go_ret
          exact ⟨rfl, hB10.trans (hb11.mono hB10.size)⟩
end Go.Proofs.YtpdbkbadjgellaaDoor

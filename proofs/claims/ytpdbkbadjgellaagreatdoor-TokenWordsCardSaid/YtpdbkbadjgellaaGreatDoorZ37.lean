/-
  The walk of the reference's Scan (payrollref17).
-/
import Derived.Test.YtpdbkbadjgellaaGreatDoorZ34
import Derived.Test.YtpdbkbadjgellaaGreatDoorZ35
import Derived.Test.YtpdbkbadjgellaaGreatDoorZ36
import Derived.Test.YtpdbkbadjgellaaGreatDoorZ04
import Derived.Deep.DeepCutAuto
import Derived.Deep.CutBlock
namespace Go.Proofs.YtpdbkbadjgellaaGreatDoor
open Go.RowKit
attribute [local go_sem] ba_get ba_extract take_rest

theorem or_four {p q r s G : Prop} (h : p ∨ q ∨ r ∨ s) (h1 : p → G) (h2 : q → G) (h3 : r → G) (h4 : s → G) : G := h.elim h1 fun h => h.elim h2 fun h => h.elim h3 h4

/-- The cells of a block of six. -/
theorem blk6 {w : World} {b : Nat} {a0 a1 a2 a3 a4 a5 : Value} {T : TypeId} (h : w.heap[b]? = some (.cells #[a0, a1, a2, a3, a4, a5] T (0, 0))) :
    w.cell? ⟨b, 0, none⟩ = some a0 ∧ w.cell? ⟨b, 1, none⟩ = some a1 ∧ w.cell? ⟨b, 2, none⟩ = some a2 ∧ w.cell? ⟨b, 3, none⟩ = some a3 ∧ w.cell? ⟨b, 4, none⟩ = some a4 ∧ w.cell? ⟨b, 5, none⟩ = some a5 ∧
    w.frozen? ⟨b, 0, none⟩ = false ∧ w.frozen? ⟨b, 1, none⟩ = false ∧ w.frozen? ⟨b, 2, none⟩ = false ∧ w.frozen? ⟨b, 3, none⟩ = false ∧ w.frozen? ⟨b, 4, none⟩ = false ∧ w.frozen? ⟨b, 5, none⟩ = false :=
  ⟨Lib.cell_of_heap h 0, Lib.cell_of_heap h 1, Lib.cell_of_heap h 2, Lib.cell_of_heap h 3, Lib.cell_of_heap h 4, Lib.cell_of_heap h 5,
    Lib.frozen_of_heap h 0, Lib.frozen_of_heap h 1, Lib.frozen_of_heap h 2, Lib.frozen_of_heap h 3, Lib.frozen_of_heap h 4, Lib.frozen_of_heap h 5⟩
theorem own_lt {w : World} {base : Nat} {e : TypeId} {size : Nat} {v : Value} {n : Nat} {xs : List Value} (h : w.ownsRow base e size v n xs) {k : Nat} (hk : v.ownBlock = some k) : k < w.heap.size := by
  rcases h.2 with ⟨rfl, _⟩ | ⟨g, cap, cur, rfl, hg, hb, _⟩
  · simp [Value.ownBlock] at hk
  · simp [Value.ownBlock] at hk; subst hk; exact heap_lt hb
theorem owns_but {w w' : World} {b base : Nat} {e : TypeId} {size : Nat} {v : Value} {n : Nat} {xs : List Value} (h : w.ownsRow base e size v n xs) (hb : But b w w') (hne : ∀ k, v.ownBlock = some k → k ≠ b) : w'.ownsRow base e size v n xs := by
  refine h.kept (row := some b) ⟨hb.os, hb.tape, hb.output, hb.size, fun k hk hk2 => hb.block k hk (fun e => hk2 (by rw [e]))⟩ ?_
  cases hv : v.ownBlock with
  | none => exact .inl rfl
  | some k => exact .inr (fun e => hne k hv (by injection e))
theorem scan_meet {w wr w8 wx : World} {e : TypeId} {size : Nat} {v : Value} {n : Nat} {xs : List Value} (hbl8 : Below w.heap.size w w8) (hown8 : w8.ownsRow w.heap.size e size v n xs) (hne : ∀ k, v.ownBlock = some k → k ≠ wr.heap.size)
    (hbut : But wr.heap.size w8 wx) (hsz : w.heap.size ≤ wr.heap.size) (hz8 : wr.heap.size < w8.heap.size) : wx.ownsRow w.heap.size e size v n xs ∧ Below w.heap.size w wx ∧ wr.heap.size < wx.heap.size :=
  ⟨owns_but hown8 hbut hne, hbl8.trans (hbut.below hsz (by omega)), Nat.lt_of_lt_of_le hz8 hbut.size⟩
theorem rform_ten (y : List UInt8) (h : Tk.dateForm y = true) : Tk.dateForm (y.take 10) = true := by
  have h10 := ((dateForm_iff y).1 h).1
  rw [dateForm_iff]
  refine ⟨by simp; omega, fun i hi => ?_⟩
  have := ((dateForm_iff y).1 h).2 i hi
  unfold dateAt at this ⊢
  rw [getD_eq (y.take 10) i (by simp; omega), List.getElem_take, ← getD_eq y i (by omega)]
  exact this
theorem rday_ten (y : List UInt8) (_h : 10 ≤ y.length) : Tk.dayOf (y.take 10) = Tk.dayOf y := by
  have e2 : Tk.dateY (y.take 10) = Tk.dateY y := by unfold Tk.dateY; rw [List.take_take]; rfl
  have e3 : Tk.dateM (y.take 10) = Tk.dateM y := by unfold Tk.dateM; rw [List.drop_take, List.take_take]; rfl
  have e4 : Tk.dateD (y.take 10) = Tk.dateD y := by unfold Tk.dateD; rw [List.drop_take, List.take_take]; rfl
  unfold Tk.dayOf
  rw [e2, e3, e4]
theorem readNum_len {y : List UInt8} {a b n : Nat} (h : Tk.readNum y = .ok (a, b, n)) : n = Tk.numLen y := by
  unfold Tk.readNum at h
  split at h
  · cases h
  · split at h
    · cases h
    · injection h with h
      injection h with _ h
      injection h with _ h
      exact h.symm

set_option maxHeartbeats 4000000 in
set_option maxRecDepth 100000 in
theorem rscan_any (l : List UInt8) (w : World) (hs : l.length ≤ maxLen) :
    Calls Tryz.prog 20 #[.string ⟨l.toArray⟩] w (ScanPost (Tk.scan l) w) := by
  unfold maxLen at hs
  obtain ⟨i0, hi, hz0, hz1, hz2⟩ := info_parts infoTok
  by_cases hbig : 16384 < l.length
  · have HR : Hid (Tk.scan l = .error (0, 3)) := by show _ = _; unfold Tk.scan; rw [if_pos hbig]
    go_enter Tryz.func20, Tryz.ntmps20
    go_wp2_with fail
    go_ret3
    exact ⟨Below.refl _ _, by rw [HR.out]; rfl⟩
  · have HR : Hid (Tk.scan l = Tk.scanAt 0 l) := by show _ = _; unfold Tk.scan; rw [if_neg hbig]
    have hle : l.length ≤ 16384 := by omega
    clear hbig hs
    generalize hT : Tk.scan l = T at *
    clear hT
    have gbig : decide (16384 < l.length) = false := by simp; omega
    go_enter Tryz.func20, Tryz.ntmps20
    go_wp2_with fail
    clear gbig
    go_loopw [5, 6] (fun s5 s6 wr => ∃ (p : Nat) (ts : List Tk.Tok), p ≤ l.length ∧ ts.length ≤ p ∧ s6 = .int .i64 p ∧ Hid (Tk.after ts (Tk.scanAt p (l.drop p)) = T) ∧
        wr.ownsRow w.heap.size 43 6 s5 ts.length (toksCells ts) ∧ Below w.heap.size w wr) (fun _ i _ => l.length - (intOf i).toNat)
    case atStart =>
      refine ⟨0, [], by omega, by simp, rfl, ?_, ⟨by simp [toksCells], .inl ⟨rfl, rfl⟩⟩, Below.refl _ _⟩
      show _ = _
      rw [Tk.after_nil, HR.out, List.drop_zero]
    case round =>
      obtain ⟨p, ts, hp, htp, rfl, HA, hown, hbl⟩ := hrel
      have hsz := hbl.size
      by_cases hlt : p < l.length
      · have HDr := Lib.hid (drop_cons l p hlt)
        by_cases hb : Tk.isBlank l[p] = true
        · have HN : Hid (Tk.after ts (Tk.scanAt (p + 1) (l.drop (p + 1))) = T) := by show _ = _; rw [← HA.out, HDr.out, Tk.scanAt_blank _ _ _ hb]
          have hb2 := of_decide_eq_true hb
          clear hb
          obtain ⟨c, hc⟩ : ∃ c, l[p] = c := ⟨_, rfl⟩
          rw [hc] at hb2
          clear HDr HA
          refine or_four hb2 (fun h => ?w1) (fun h => ?w2) (fun h => ?w3) (fun h => ?w4)
          case' w1 => have g1 : ((c.toNat : Int) == 32) = true := by simp; omega
          case' w2 =>
            have g1 : ((c.toNat : Int) == 32) = false := by simp; omega
            have g2 : ((c.toNat : Int) == 9) = true := by simp; omega
          case' w3 =>
            have g1 : ((c.toNat : Int) == 32) = false := by simp; omega
            have g2 : ((c.toNat : Int) == 9) = false := by simp; omega
            have g3 : ((c.toNat : Int) == 10) = true := by simp; omega
          case' w4 =>
            have g1 : ((c.toNat : Int) == 32) = false := by simp; omega
            have g2 : ((c.toNat : Int) == 9) = false := by simp; omega
            have g3 : ((c.toNat : Int) == 10) = false := by simp; omega
            have g4 : ((c.toNat : Int) == 13) = true := by simp; omega
          all_goals
            clear h hb2
            go_wp2_with fail
            go_roundw
            case rel => first | exact ⟨p + 1, ts, by omega, by omega, by go_num, HN, hown, hbl⟩ | ((repeat apply Exists.intro); exact ⟨⟨p + 1, ts, by omega, by omega, by go_num, HN, hown, hbl⟩, rfl⟩)
            case measure => simp [intOf]; omega
        · have hb : Tk.isBlank l[p] = false := by simpa using hb
          have hb2 := of_decide_eq_false hb
          simp only [not_or] at hb2
          obtain ⟨hb32, hb9, hb10, hb13⟩ := hb2
          obtain ⟨c, hc⟩ : ∃ c, l[p] = c := ⟨_, rfl⟩
          rw [hc] at hb32 hb9 hb10 hb13 hb
          have HDr2 : Hid (l.drop p = c :: l.drop (p + 1)) := by show _ = _; rw [HDr.out, hc]
          have g1 : ((c.toNat : Int) == 32) = false := by simp; omega
          have g2 : ((c.toNat : Int) == 9) = false := by simp; omega
          have g3 : ((c.toNat : Int) == 10) = false := by simp; omega
          have g4 : ((c.toNat : Int) == 13) = false := by simp; omega
          have HBl := Lib.hid hb
          clear hb32 hb9 hb10 hb13 hb HDr
          by_cases h35 : c.toNat = 35
          · have g5 : ((c.toNat : Int) == 35) = true := by simp; omega
            have HN : Hid (Tk.after ts (Tk.scanAt (p + Tk.lead Tk.ne10 (l.drop p)) (l.drop (p + Tk.lead Tk.ne10 (l.drop p)))) = T) := by
              show _ = _
              rw [← HA.out, ← List.drop_drop]
              have := Tk.scanAt_comment p c (l.drop (p + 1)) h35
              rw [← HDr2.out] at this
              rw [this]
            have hl1 : 1 ≤ Tk.lead Tk.ne10 (l.drop p) := by rw [HDr2.out]; exact Tk.lead_pos _ _ _ (by simp [Tk.ne10, h35])
            clear h35 HA HBl
            obtain ⟨wo, rfl⟩ : ∃ wo : World, wo = wr := ⟨_, rfl⟩
            have gp : decide (p < l.length) = true := by simp; omega
            go_wp2_with fail
            clear gp g1 g2 g3 g4 g5 hc
            go_loop [6] (fun n => ∃ k : Nat, p + k ≤ l.length ∧ n = .int .i64 (p + k : Nat) ∧ Hid (∀ j (h : p + j < l.length), j < k → Tk.ne10 l[p + j] = true)) (fun i => l.length - (intOf i).toNat)
            case atStart => exact ⟨0, by omega, rfl, fun _ _ h => by omega⟩
            case round =>
              obtain ⟨k, hk, rfl, HC⟩ := hrel
              have HE : Hid (∀ (hs : ∀ h : p + k < l.length, Tk.ne10 l[p + k] = false), Tk.lead Tk.ne10 (l.drop p) = k) := by
                show ∀ _, _
                intro hs
                refine Tk.lead_eq _ _ k (by simp; omega) (fun j h hj => ?_) (fun h => ?_)
                · rw [List.getElem_drop]; exact HC.out j (by simp at h; omega) hj
                · rw [List.getElem_drop]; exact hs (by simp at h; omega)
              by_cases hlk : p + k < l.length
              · by_cases hd : l[p + k].toNat = 10
                · have gd : ((l[p + k].toNat : Int) != 10) = false := by simp; omega
                  have HF : Hid (Tk.lead Tk.ne10 (l.drop p) = k) := HE.out (fun _ => by simp [Tk.ne10, hd])
                  rw [HF.out] at hl1 HN
                  clear hd
                  go_wp2_with fail
                  go_roundw
                  case rel => first | exact ⟨p + k, ts, by omega, by omega, by go_num, HN, hown, hbl⟩ | ((repeat apply Exists.intro); exact ⟨⟨p + k, ts, by omega, by omega, by go_num, HN, hown, hbl⟩, rfl⟩)
                  case measure => simp [intOf]; omega
                · have gd : ((l[p + k].toNat : Int) != 10) = true := by simp; omega
                  have HN2 : Hid (∀ j (h : p + j < l.length), j < k + 1 → Tk.ne10 l[p + j] = true) := fun j h hj => if e : j = k then by subst e; simp [Tk.ne10, hd] else HC.out j h (by omega)
                  clear hd
                  go_wp2_with fail
                  go_round
                  case rel => first | exact ⟨k + 1, by omega, by go_num, HN2⟩ | ((repeat apply Exists.intro); exact ⟨⟨k + 1, by omega, by go_num, HN2⟩, rfl⟩)
                  case measure => simp [intOf]; omega
              · have HF : Hid (Tk.lead Tk.ne10 (l.drop p) = k) := HE.out (fun h => absurd h hlk)
                rw [HF.out] at hl1 HN
                go_wp2_with fail
                go_roundw
                case rel => first | exact ⟨p + k, ts, by omega, by omega, by go_num, HN, hown, hbl⟩ | ((repeat apply Exists.intro); exact ⟨⟨p + k, ts, by omega, by omega, by go_num, HN, hown, hbl⟩, rfl⟩)
                case measure => simp [intOf]; omega
          · have g5 : ((c.toNat : Int) == 35) = false := by simp; omega
            have hpp : p ≤ l.length := by omega
            have HS0 : Hid (Tk.skipN false (l.drop p) = 0) := by show _ = _; rw [HDr2.out]; exact Tk.skip_none c _ HBl.out h35
            have hdl0 : 0 < (l.drop p).length := by simp; omega
            have HER : Hid (∀ x, Tk.readTok (l.drop p) = .error x → T = .error (p, x)) := by
              show ∀ x, _ → _
              intro x hx
              rw [← HA.out, Tk.scanAt_err p _ HS0.out hdl0 x hx]; rfl
            clear h35
            go_upto_block 4 with fail
            clear g1 g2 g3 g4 g5
            have h8 := heap_alloc_new wr (.cells #[.int .i64 0, .string ⟨#[]⟩, .int .i64 0, .int .i64 0, .int .i64 0, .int .i64 p] 43)
            have hown8 := hown.alloc (.cells #[.int .i64 0, .string ⟨#[]⟩, .int .i64 0, .int .i64 0, .int .i64 0, .int .i64 p] 43)
            have hbl8 := hbl.alloc hsz (.cells #[.int .i64 0, .string ⟨#[]⟩, .int .i64 0, .int .i64 0, .int .i64 0, .int .i64 p] 43)
            have hz8 : wr.heap.size < (wr.alloc (.cells #[.int .i64 0, .string ⟨#[]⟩, .int .i64 0, .int .i64 0, .int .i64 0, .int .i64 p] 43)).heap.size := by simp
            generalize wr.alloc (.cells #[.int .i64 0, .string ⟨#[]⟩, .int .i64 0, .int .i64 0, .int .i64 0, .int .i64 p] 43) = w8 at *
            have H8 := Lib.hid h8
            have HNE : Hid (∀ k, u5.ownBlock = some k → k ≠ wr.heap.size) := by
              show ∀ k, _ → _
              intro k hk
              have := own_lt hown hk
              omega
            clear h8
            go_cut [9] (fun s9 wx => ∃ (t : Tk.Tok) (n : Nat), s9 = .int .i64 (p + n : Nat) ∧ Hid (Tk.readTok (l.drop p) = .ok (t, n)) ∧ Hid (wx.heap[wr.heap.size]? = some (.cells (tokCells { t with place := p }).toArray 43 (0, 0))) ∧
              wx.ownsRow w.heap.size 43 6 u5 ts.length (toksCells ts) ∧ Below w.heap.size w wx ∧ wr.heap.size < wx.heap.size)
            case first =>
              as_aux_lemma =>
                have HD := Lib.hid (rfl : Tk.dateForm (l.drop p) = Tk.dateForm (l.drop p))
                have hm : l.length ≤ maxLen := by unfold maxLen; omega
                have HM := Lib.hid hm
                have hcd : (l.drop p).headD 0 = c := by rw [HDr2.out]; rfl
                have HCD := Lib.hid hcd
                clear hm hcd HA HS0 hown
                go_wp2_with fail
                refine (rdate_any _ _ _ (by omega) hpp).mono ?_
                rintro e w' ⟨rfl, rfl⟩
                by_cases hd : Tk.dateForm (l.drop p) = true
                · have HF := Lib.hid hd
                  have h10 : 10 ≤ (l.drop p).length := ((dateForm_iff _).1 hd).1
                  rw [List.length_drop] at h10
                  have HRt : Hid (Tk.readTok (l.drop p) = match Tk.dayOf (l.drop p) with | none => .error 6 | some d => .ok ({ kind := 3, day := d }, 10)) := by show _ = _; unfold Tk.readTok; rw [if_pos hd]; cases Tk.dayOf (l.drop p) <;> rfl
                  rw [hd]
                  clear hd
                  go_wp2_with fail
                  try rw [show p + 10 - p = 10 by omega]
                  refine (rparse_any ((l.drop p).take 10) _ (by simp; omega) (rform_ten _ HF.out)).mono ?_
                  rintro e w' ⟨rfl, hb⟩
                  rw [rday_ten _ (by simp; omega)]
                  have H9 := Lib.hid ((hb.block _ hz8).trans H8.out)
                  have hbut : But wr.heap.size w8 w' := .of_below hb
                  have hz9 := hb.size
                  cases hx : Tk.dayOf (l.drop p) with
                  | none =>
                    have HX := Lib.hid (HER.out 6 (by rw [HRt.out, hx]))
                    clear hx HRt
                    simp only [Option.isSome_none, Option.getD_none]
                    go_wp2_with fail
                    go_ret3
                    exact ⟨hbl8.trans (hb.mono hbl8.size), by rw [HX.out]; rfl⟩
                  | some d =>
                    have HX : Hid (Tk.readTok (l.drop p) = .ok ({ kind := 3, day := d }, 10)) := by show _ = _; rw [HRt.out, hx]
                    clear hx HRt
                    simp only [Option.isSome_some, Option.getD_some]
                    obtain ⟨e0, e1, e2, e3, e4, e5, f0, f1, f2, f3, f4, f5⟩ := blk6 H9.out
                    go_wp2_with fail
                    go_meet
                    case rel => exact ⟨{ kind := 3, day := d }, 10, by go_num, HX, setCell_at (setCell_at H9.out _) _, scan_meet hbl8 hown8 HNE.out ((hbut.setCell rfl _).setCell rfl _) hsz hz8⟩
                · have hd : Tk.dateForm (l.drop p) = false := by simpa using hd
                  by_cases hg : Tk.isDig c = true
                  · have HRt : Hid (Tk.readTok (l.drop p) = match Tk.readNum (l.drop p) with | .error e => .error e | .ok (a, b, n) => .ok ({ kind := 2, num := a, den := b }, n)) := by
                      show _ = _
                      unfold Tk.readTok
                      rw [hd, HCD.out, hg]
                      simp only [Bool.false_eq_true, if_false, if_true]
                      cases Tk.readNum (l.drop p) <;> rfl
                    have HG := Lib.hid hg
                    rw [hd]
                    clear hd hg
                    go_wp2_with fail
                    refine (rdigit_any _ _).mono ?_
                    rintro e w' ⟨rfl, rfl⟩
                    rw [HG.out]
                    go_wp2_with fail
                    refine (rscanNumber_any l p _ (by omega) hlt).mono ?_
                    rintro e w' ⟨rfl, hb⟩
                    have H9 := Lib.hid ((hb.block _ hz8).trans H8.out)
                    have hbut : But wr.heap.size w8 w' := .of_below hb
                    have hz9 := hb.size
                    cases hx : Tk.readNum (l.drop p) with
                    | error x =>
                      have hr : Tk.readTok (l.drop p) = .error x := by rw [HRt.out, hx]
                      have HX := Lib.hid (HER.out x hr)
                      have hx0 := Tk.read_err _ _ hr
                      have gx : (x != 0) = true := by simpa using hx0
                      have HE : Hid (rnumErr p (l.drop p) = .returned (.tuple #[.agg #[.int .i64 0, .int .i64 0], .int .i64 (p + Tk.numLen (l.drop p) : Nat), .int .i64 x])) := by show _ = _; unfold rnumErr; rw [hx]; rfl
                      rw [HE.out]
                      clear hx hr hx0 HRt
                      go_wp2_with fail
                      go_ret3
                      exact ⟨(hbl8.trans (hb.mono hbl8.size)).alloc (by omega) _, by rw [HX.out]; rfl⟩
                    | ok y =>
                      obtain ⟨a, b, n⟩ := y
                      have hnl := readNum_len hx
                      subst hnl
                      have HX : Hid (Tk.readTok (l.drop p) = .ok ({ kind := 2, num := a, den := b }, Tk.numLen (l.drop p))) := by show _ = _; rw [HRt.out, hx]
                      have HE : Hid (rnumErr p (l.drop p) = .returned (.tuple #[.agg #[.int .i64 a, .int .i64 b], .int .i64 (p + Tk.numLen (l.drop p) : Nat), .int .i64 0])) := by show _ = _; unfold rnumErr; rw [hx]; rfl
                      rw [HE.out]
                      clear hx HRt
                      obtain ⟨e0, e1, e2, e3, e4, e5, f0, f1, f2, f3, f4, f5⟩ := blk6 H9.out
                      have hzz : wr.heap.size < w'.heap.size := by omega
                      go_wp2_with fail
                      go_region
                      go_wp2_with fail
                      go_meet
                      case rel => exact ⟨{ kind := 2, num := a, den := b }, Tk.numLen (l.drop p), rfl, HX, (Below.heap_alloc _ _ _ (Nat.lt_of_lt_of_le hzz (by simp [World.setCell]))).trans (setCell_at (setCell_at (setCell_at H9.out _) _) _), scan_meet hbl8 hown8 HNE.out ((((hbut.setCell rfl _).setCell rfl _).setCell rfl _).alloc _).drew hsz hz8⟩
                  · have hg : Tk.isDig c = false := by simpa using hg
                    by_cases hw : Tk.isLow c = true
                    · have HRt : Hid (Tk.readTok (l.drop p) = if (Tk.isKey ((l.drop p).take (Tk.wordLen (l.drop p))) || Tk.isName ((l.drop p).take (Tk.wordLen (l.drop p)))) = true then .ok ({ kind := 1, text := (l.drop p).take (Tk.wordLen (l.drop p)) }, Tk.wordLen (l.drop p)) else .error 6) := by
                        show _ = _
                        unfold Tk.readTok
                        rw [hd, HCD.out, hg, hw]
                        simp only [Bool.false_eq_true, if_false, if_true]
                      have HG := Lib.hid hg
                      have HW := Lib.hid hw
                      have hwl := Tk.wordLen_in (l.drop p)
                      rw [List.length_drop] at hwl
                      rw [hd]
                      clear hd hg hw
                      go_wp2_with fail
                      refine (rdigit_any _ _).mono ?_
                      rintro e w' ⟨rfl, rfl⟩
                      rw [HG.out]
                      go_wp2_with fail
                      refine (rlower_any _ _).mono ?_
                      rintro e w' ⟨rfl, rfl⟩
                      rw [HW.out]
                      go_wp2_with fail
                      refine (rword_any l p _ HM.out hpp).mono ?_
                      rintro e w' ⟨rfl, rfl⟩
                      generalize Tk.wordLen (l.drop p) = wl at *
                      obtain ⟨e0, e1, e2, e3, e4, e5, f0, f1, f2, f3, f4, f5⟩ := blk6 H8.out
                      go_wp2_with fail
                      go_region
                      go_wp2_with fail
                      generalize hX : (l.drop p).take wl = X at *
                      have hXl : X.length ≤ 20000 := by rw [← hX]; simp; omega
                      clear hX
                      have H9 := Lib.hid (setCell_at (i := 1) (setCell_at (i := 0) H8.out (.int .i64 1)) (.string ⟨X.toArray⟩))
                      have hbut9 : But wr.heap.size w8 ((w8.setCell ⟨wr.heap.size, 0, none⟩ (.int .i64 1)).setCell ⟨wr.heap.size, 1, none⟩ (.string ⟨X.toArray⟩)).drew := (((But.refl wr.heap.size w8).setCell (p := ⟨wr.heap.size, 0, none⟩) rfl _).setCell (p := ⟨wr.heap.size, 1, none⟩) rfl _).drew
                      have H9' : Hid (((w8.setCell ⟨wr.heap.size, 0, none⟩ (.int .i64 1)).setCell ⟨wr.heap.size, 1, none⟩ (.string ⟨X.toArray⟩)).drew.heap[wr.heap.size]? = some (.cells (tokCells { kind := 1, text := X, place := p }).toArray 43 (0, 0))) := H9.out
                      clear H9 e0 e1 e2 e3 e4 e5 f0 f1 f2 f3 f4 f5
                      generalize ((w8.setCell ⟨wr.heap.size, 0, none⟩ (.int .i64 1)).setCell ⟨wr.heap.size, 1, none⟩ (.string ⟨X.toArray⟩)).drew = w9 at *
                      have hz9 := hbut9.size
                      refine (risName_any X _ (by unfold maxLen; omega)).mono ?_
                      rintro e w10 ⟨rfl, hb10⟩
                      have hz10 := hb10.size
                      have H10 : Hid (w10.heap[wr.heap.size]? = some (.cells (tokCells { kind := 1, text := X, place := p }).toArray 43 (0, 0))) := (hb10.block _ (by omega)).trans H9'.out
                      have hbut10 : But wr.heap.size w8 w10 := hbut9.trans (.of_below hb10)
                      cases hn : Tk.isName X
                      · have HN := Lib.hid hn
                        clear hn
                        obtain ⟨e0, e1, e2, e3, e4, e5, f0, f1, f2, f3, f4, f5⟩ := blk6 H10.out
                        go_wp2_with fail
                        clear e0 e1 e2 e3 e4 e5 f0 f1 f2 f3 f4 f5
                        refine (risKeyword_any X _).mono ?_
                        rintro e w11 ⟨rfl, hb11⟩
                        have H11 : Hid (w11.heap[wr.heap.size]? = some (.cells (tokCells { kind := 1, text := X, place := p }).toArray 43 (0, 0))) := (hb11.block _ (by omega)).trans H10.out
                        have hbut11 : But wr.heap.size w8 w11 := hbut10.trans (.of_below hb11)
                        cases hk : Tk.isKey X
                        · have HX := Lib.hid (HER.out 6 (by rw [HRt.out, HN.out, hk]; rfl))
                          clear hk
                          go_wp2_with fail
                          go_ret3
                          exact ⟨hbl8.trans (hbut11.below hsz (by omega)), by rw [HX.out]; rfl⟩
                        · have HX : Hid (Tk.readTok (l.drop p) = .ok ({ kind := 1, text := X }, wl)) := by show _ = _; rw [HRt.out, HN.out, hk]; rfl
                          clear hk
                          go_wp2_with fail
                          go_meet
                          case rel => exact ⟨{ kind := 1, text := X }, wl, by go_num, HX, H11.out, scan_meet hbl8 hown8 HNE.out hbut11 hsz hz8⟩
                      · have HX : Hid (Tk.readTok (l.drop p) = .ok ({ kind := 1, text := X }, wl)) := by show _ = _; rw [HRt.out, hn, Bool.or_true]; rfl
                        clear hn
                        go_wp2_with fail
                        go_meet
                        case rel => exact ⟨{ kind := 1, text := X }, wl, by go_num, HX, H10.out, scan_meet hbl8 hown8 HNE.out hbut10 hsz hz8⟩
                    · have hw : Tk.isLow c = false := by simpa using hw
                      have HRt : Hid (Tk.readTok (l.drop p) = if Tk.symLen (l.drop p) = 0 then .error 6 else .ok ({ kind := 4, text := (l.drop p).take (Tk.symLen (l.drop p)) }, Tk.symLen (l.drop p))) := by
                        show _ = _
                        unfold Tk.readTok
                        rw [hd, HCD.out, hg, hw]
                        simp only [Bool.false_eq_true, if_false]
                      have HG := Lib.hid hg
                      have HW := Lib.hid hw
                      have hsl := Tk.symLen_in (l.drop p)
                      rw [List.length_drop] at hsl
                      rw [hd]
                      clear hd hg hw
                      go_wp2_with fail
                      refine (rdigit_any _ _).mono ?_
                      rintro e w' ⟨rfl, rfl⟩
                      rw [HG.out]
                      go_wp2_with fail
                      refine (rlower_any _ _).mono ?_
                      rintro e w' ⟨rfl, rfl⟩
                      rw [HW.out]
                      go_wp2_with fail
                      refine (rsymbol_any l p _ (by omega) hlt (by omega)).mono ?_
                      rintro e w' ⟨rfl, hb⟩
                      have H9 := Lib.hid ((hb.block _ hz8).trans H8.out)
                      have hbut : But wr.heap.size w8 w' := .of_below hb
                      have hz9 := hb.size
                      obtain ⟨e0, e1, e2, e3, e4, e5, f0, f1, f2, f3, f4, f5⟩ := blk6 H9.out
                      by_cases h0 : Tk.symLen (l.drop p) = 0
                      · have HX := Lib.hid (HER.out 6 (by rw [HRt.out, if_pos h0]))
                        rw [h0, List.take_zero]
                        clear h0 HRt
                        go_wp2_with fail
                        go_ret3
                        exact ⟨hbl8.trans (((hbut.setCell rfl _).setCell rfl _).below hsz (by omega)), by rw [HX.out]; rfl⟩
                      · have HX : Hid (Tk.readTok (l.drop p) = .ok ({ kind := 4, text := (l.drop p).take (Tk.symLen (l.drop p)) }, Tk.symLen (l.drop p))) := by show _ = _; rw [HRt.out, if_neg h0]
                        have hXl : ((l.drop p).take (Tk.symLen (l.drop p))).length = Tk.symLen (l.drop p) := by simp; omega
                        generalize (l.drop p).take (Tk.symLen (l.drop p)) = X at *
                        rw [← hXl] at HX h0 hsl
                        clear hXl HRt
                        obtain ⟨c0, r0, rfl⟩ : ∃ c0 r0, X = c0 :: r0 := by cases X with
                          | nil => exact absurd rfl h0
                          | cons a b => exact ⟨a, b, rfl⟩
                        simp only [List.length_cons] at hsl HX
                        clear h0
                        go_wp2_with fail
                        go_meet
                        case rel => exact ⟨{ kind := 4, text := c0 :: r0 }, r0.length + 1, by go_num, HX, setCell_at (setCell_at H9.out _) _, scan_meet hbl8 hown8 HNE.out ((hbut.setCell rfl _).setCell rfl _) hsz hz8⟩
            case rest =>
              obtain ⟨t, n, rfl, HRd, H9, hown9, hbl9, hz9⟩ := hcut
              have hn := Tk.read_len _ _ _ HRd.out
              rw [List.length_drop] at hn
              obtain ⟨hn1, hn2⟩ := hn
              have HX : Hid (Tk.after (ts ++ [{ t with place := p }]) (Tk.scanAt (p + n) (l.drop (p + n))) = T) := by
                show _ = _
                rw [← HA.out, Tk.scanAt_ok p _ HS0.out hdl0 t n HRd.out, Tk.after_after, List.drop_drop]
              clear HA HS0 HER HRd hown hown8 hbl8 H8 HNE
              have c0 := Lib.cell_of_heap H9.out 0
              have c1 := Lib.cell_of_heap H9.out 1
              have c2 := Lib.cell_of_heap H9.out 2
              have c3 := Lib.cell_of_heap H9.out 3
              have c4 := Lib.cell_of_heap H9.out 4
              have c5 := Lib.cell_of_heap H9.out 5
              obtain ⟨t1, t2, t3, t4, t5, t6⟩ := t
              simp only [tokCells, List.getElem?_toArray, List.getElem?_cons_zero, List.getElem?_cons_succ] at c0 c1 c2 c3 c4 c5
              have hsz9 := hbl9.size
              clear H9
              go_wp2_with (at_builtin; refine wpList_append_own _ rfl _ _ 34 rfl w.heap.size 43 i0 (.agg #[.int .i64 0, .string ⟨#[]⟩, .int .i64 0, .int .i64 0, .int .i64 0, .int .i64 0]) 6 56 Tryz.underlying34 hi hz0 hz1 hz2 rfl (by decide) _ _ _ rfl (hown9.alloc _) ⟨wc.heap.size, 0, none⟩ 1 1 (tokCells ⟨t1, t2, t3, t4, t5, p⟩) rfl rfl ?c1 ?c2 ?c3 ?c4 ?c5 ?_)
              case c1 => exact fun j u hj => by first | exact hj | (rw [Lib.cell_of_heap (heap_alloc_new wc _)]; simpa using hj)
              case c2 => exact tokCells_one _
              case c3 => unfold maxLen; omega
              case c4 => omega
              case c5 => omega
              intro v' w2 hown2 hg2 _
              have hB2 : Below w.heap.size w w2 := by
                refine Below.grown (hbl9.alloc (by omega) _) hg2 (by simp; omega) ?_
                exact fun k hk => own_ge hown9 hk
              clear hg2 hown9 hbl9 c0 c1 c2 c3 c4 c5
              go_wp2_with fail
              go_roundw
              case rel => exact ⟨p + n, ts ++ [⟨t1, t2, t3, t4, t5, p⟩], by omega, by simp; omega, by go_num, HX, by rw [toksCells_snoc, List.length_append]; exact hown2, hB2⟩
              case measure => simp [intOf]; omega
      · have HX : Hid (T = .ok ts) := by
          show _ = _
          rw [← HA.out, List.drop_of_length_le (by omega)]
          simp [Tk.scanAt_end, Tk.after]
        go_wp2_with fail
        go_ret3
        exact ⟨hbl, by rw [HX.out]; exact ⟨_, rfl, hown⟩⟩
end Go.Proofs.YtpdbkbadjgellaaGreatDoor

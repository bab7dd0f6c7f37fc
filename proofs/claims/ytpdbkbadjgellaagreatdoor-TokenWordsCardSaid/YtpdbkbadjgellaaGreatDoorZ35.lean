/-
  The walk of the reference's number (payrollref17).
-/
import Derived.Test.YtpdbkbadjgellaaGreatDoorZ34
import Derived.Test.YtpdbkbadjgellaaGreatDoorZ15
import Derived.Test.YtpdbkbadjgellaaGreatDoorZ14
import Derived.Test.YtpdbkbadjgellaaGreatDoorZ03
import Derived.Deep.DeepCutAuto
import Derived.Deep.CutBlock
namespace Go.Proofs.YtpdbkbadjgellaaGreatDoor
open Go.RowKit
attribute [local go_sem] ba_get ba_extract take_rest

def rnumVal : Except Int (Nat × Nat × Nat) → Int × Int × Int
  | .error e => (0, 0, e)
  | .ok (a, b, _) => (a, b, 0)
def rnumErr (p : Nat) (y : List UInt8) : Ending :=
  .returned (.tuple #[.agg #[.int .i64 (rnumVal (Tk.readNum y)).1, .int .i64 (rnumVal (Tk.readNum y)).2.1], .int .i64 (p + Tk.numLen y : Nat), .int .i64 (rnumVal (Tk.readNum y)).2.2])

theorem get_drop (l : List UInt8) (p j : Nat) (h : p + j < l.length) : (l.drop p).getD j 0 = l[p + j] := by rw [getD_eq _ j (by simp; omega), List.getElem_drop]
theorem get_past (l : List UInt8) (p j : Nat) (h : l.length ≤ p + j) : (l.drop p).getD j 0 = 0 := by
  rw [List.getD_eq_getElem?_getD, List.getElem?_eq_none (by simp; omega)]; rfl

theorem rnum_new (p : Nat) (y : List UInt8) (N D : Nat) (hb : Tk.badNum y = false) (hN : N = Tk.numN y) (hD : D = Tk.numD y) (hD0 : 1 ≤ D) :
    rnumErr p y = .returned (.tuple #[.agg #[.int .i64 (newI N D).1, .int .i64 (newI N D).2.1], .int .i64 (p + Tk.numLen y : Nat), .int .i64 (newI N D).2.2]) := by
  have e1 : newI N D = fitR false N D := by
    unfold newI
    rw [if_neg (by omega), Int.natAbs_natCast, Int.natAbs_natCast, show decide ((N : Int) < 0) = false from decide_eq_false (by omega), show decide ((D : Int) < 0) = false from decide_eq_false (by omega)]
    rfl
  have e2 : rnumVal (Tk.readNum y) = newI N D := by
    rw [e1]
    unfold Tk.readNum fitR
    rw [if_neg (by rw [hb]; simp), ← hN, ← hD]
    cases Tk.newR N D <;> rfl
  unfold rnumErr
  rw [e2]

/-- When a number is not well written, place by place. -/
theorem rbad_eq (l : List UInt8) (p : Nat) : Tk.badNum (l.drop p) = ((decide (1 < ((l.drop p).take (Tk.digs (l.drop p))).length) && decide ((((l.drop p).take (Tk.digs (l.drop p))).getD 0 0).toNat = 48)) ||
    (decide (Tk.most (l.drop p) < (((l.drop p).drop (Tk.digs (l.drop p) + 1)).take (Tk.frac (l.drop p))).length) ||
      (if h : p + Tk.numLen (l.drop p) < l.length then Tk.isLow l[p + Tk.numLen (l.drop p)] || decide (l[p + Tk.numLen (l.drop p)].toNat = 95) else false))) := by
  have hd : Tk.digs (l.drop p) ≤ (l.drop p).length := digs_le _
  have e1 : ((l.drop p).take (Tk.digs (l.drop p))).length = Tk.digs (l.drop p) := by rw [List.length_take, Nat.min_eq_left hd]
  have e2 : (decide (1 < Tk.digs (l.drop p)) && decide (((l.drop p).getD 0 0).toNat = 48)) = (decide (1 < Tk.digs (l.drop p)) && decide ((((l.drop p).take (Tk.digs (l.drop p))).getD 0 0).toNat = 48)) := by
    by_cases h : 1 < Tk.digs (l.drop p)
    · have : (l.drop p).getD 0 0 = ((l.drop p).take (Tk.digs (l.drop p))).getD 0 0 := by
        rw [getD_eq _ 0 (by omega), getD_eq _ 0 (by omega), List.getElem_take]
      rw [this]
    · simp [h]
  rw [e1, Tk.frac_len']
  unfold Tk.badNum
  rw [e2, Bool.or_assoc]
  congr 2
  split
  · rename_i h
    rw [get_drop l p _ h]
  · rename_i h
    rw [get_past l p _ (by omega)]
    rfl

set_option maxHeartbeats 4000000 in
set_option maxRecDepth 100000 in
theorem rscanNumber_any (l : List UInt8) (p : Nat) (w : World) (hs : l.length ≤ 20000) (hp : p < l.length) :
    Calls Tryz.prog 43 #[.string ⟨l.toArray⟩, .int .i64 p] w fun e w' => e = rnumErr p (l.drop p) ∧ Below w.heap.size w w' := by
  have hdl : Tk.digs (l.drop p) ≤ (l.drop p).length := digs_le _
  rw [List.length_drop] at hdl
  go_enter Tryz.func43, Tryz.ntmps43
  go_upto_block 0 with fail
  go_cut [7] (fun s wx => s = .int .i64 (p + Tk.digs (l.drop p) : Nat) ∧ wx = w.alloc (.cells #[.int .i64 0, .int .i64 0] 33))
  case first =>
    as_aux_lemma =>
      go_wp2_with fail
      go_loop [7] (fun n => ∃ k : Nat, p + k ≤ l.length ∧ n = .int .i64 (p + k : Nat) ∧ Hid (∀ j (h : p + j < l.length), j < k → Tk.isDig l[p + j] = true)) (fun i => l.length - (intOf i).toNat)
      case atStart => exact ⟨0, by omega, rfl, fun _ _ h => by omega⟩
      case round =>
        obtain ⟨k, hk, rfl, HA⟩ := hrel
        have HE : Hid (∀ (hs : ∀ h : p + k < l.length, Tk.isDig l[p + k] = false), Tk.digs (l.drop p) = k) := by
          show ∀ _, _
          intro hs
          refine Tk.lead_eq _ _ k (by simp; omega) (fun j h hj => ?_) (fun h => ?_)
          · rw [List.getElem_drop]; exact HA.out j (by simp at h; omega) hj
          · rw [List.getElem_drop]; exact hs (by simp at h; omega)
        by_cases hlk : p + k < l.length
        · by_cases hd : Tk.isDig l[p + k] = true
          · have HD := Lib.hid hd
            have HN : Hid (∀ j (h : p + j < l.length), j < k + 1 → Tk.isDig l[p + j] = true) := fun j h hj => if e : j = k then by subst e; exact HD.out else HA.out j h (by omega)
            clear hd
            go_wp2_with fail
            refine (rdigit_any _ _).mono ?_
            rintro e w' ⟨rfl, rfl⟩
            rw [HD.out]
            go_wp2_with fail
            go_round
            case rel => first | exact ⟨k + 1, by omega, by go_num, HN⟩ | ((repeat apply Exists.intro); exact ⟨⟨k + 1, by omega, by go_num, HN⟩, rfl⟩)
            case measure => simp [intOf]; omega
          · have hd : Tk.isDig l[p + k] = false := by simpa using hd
            have HD := Lib.hid hd
            have HF : Hid (Tk.digs (l.drop p) = k) := HE.out (fun _ => hd)
            clear hd
            go_wp2_with fail
            refine (rdigit_any _ _).mono ?_
            rintro e w' ⟨rfl, rfl⟩
            rw [HD.out]
            go_wp2_with fail
            go_meet
            case rel => exact ⟨by rw [HF.out]; go_num, rfl⟩
        · have HF : Hid (Tk.digs (l.drop p) = k) := HE.out (fun h => absurd h hlk)
          go_wp2_with fail
          go_meet
          case rel => exact ⟨by rw [HF.out]; go_num, rfl⟩
  case rest =>
    obtain ⟨rfl, rfl⟩ := hcut
    obtain ⟨i1, hi1⟩ : ∃ i1, p + Tk.digs (l.drop p) = i1 := ⟨_, rfl⟩
    have hi1l : i1 ≤ l.length := by omega
    have hi1p : p ≤ i1 := by omega
    rw [hi1]
    have HI1 := Lib.hid hi1
    have HFQ : Hid (Tk.hasFrac (l.drop p) = if h : i1 + 1 < l.length then decide (l[i1].toNat = 46) && Tk.isDig l[i1 + 1] else false) := by
      show _ = _
      unfold Tk.hasFrac
      subst hi1
      split
      · rename_i h
        rw [get_drop l p _ (by omega), get_drop l p _ (by omega)]
        rfl
      · rename_i h
        rw [get_past l p (Tk.digs (l.drop p) + 1) (by omega)]
        simp [Tk.isDig]
    clear hi1
    go_upto_region 5 with fail
    go_cut [52] (fun s wx => s = .bool (Tk.hasFrac (l.drop p)) ∧ wx = w.alloc (.cells #[.int .i64 0, .int .i64 0] 33))
    case first =>
      as_aux_lemma =>
        by_cases h1 : i1 + 1 < l.length
        · by_cases h2 : l[i1].toNat = 46
          · have g2 : ((l[i1].toNat : Int) == 46) = true := by simp; omega
            have HX : Hid (Tk.hasFrac (l.drop p) = Tk.isDig l[i1 + 1]) := by show _ = _; rw [HFQ.out, dif_pos h1]; simp [h2]
            clear h2
            go_wp2_with fail
            refine (rdigit_any _ _).mono ?_
            rintro e w' ⟨rfl, rfl⟩
            rw [← HX.out]
            go_wp2_with fail
            go_meet
            case rel => exact ⟨rfl, rfl⟩
          · have g2 : ((l[i1].toNat : Int) == 46) = false := by simp; omega
            have HX : Hid (Tk.hasFrac (l.drop p) = false) := by show _ = _; rw [HFQ.out, dif_pos h1]; simp [h2]
            clear h2
            go_wp2_with fail
            go_meet
            case rel => exact ⟨by rw [HX.out], rfl⟩
        · have HX : Hid (Tk.hasFrac (l.drop p) = false) := by show _ = _; rw [HFQ.out, dif_neg h1]
          go_wp2_with fail
          go_meet
          case rel => exact ⟨by rw [HX.out], rfl⟩
    case rest =>
      obtain ⟨rfl, rfl⟩ := hcut
      rw [show i1 - p = Tk.digs (l.drop p) by have := HI1.out; omega]
      go_upto_if 52 with fail
      go_cut [7, 9] (fun s7 s9 wx => s7 = .int .i64 (p + Tk.numEnd (l.drop p) : Nat) ∧ s9 = .string ⟨(((l.drop p).drop (Tk.digs (l.drop p) + 1)).take (Tk.frac (l.drop p))).toArray⟩ ∧ wx = w.alloc (.cells #[.int .i64 0, .int .i64 0] 33))
      case first =>
        as_aux_lemma =>
          by_cases hf : Tk.hasFrac (l.drop p) = true
          · have h1 : i1 + 1 < l.length := by
              rcases Nat.lt_or_ge (i1 + 1) l.length with h | h
              · exact h
              · rw [HFQ.out, dif_neg (by omega)] at hf; cases hf
            have HFr : Hid (Tk.frac (l.drop p) = Tk.lead Tk.isDig (l.drop (i1 + 1))) := by
              show _ = _
              unfold Tk.frac
              rw [if_pos hf, List.drop_drop]
              unfold Tk.digs
              rw [show p + (Tk.lead Tk.isDig (l.drop p) + 1) = i1 + 1 by have := HI1.out; unfold Tk.digs at this; omega]
            have HNe : Hid (p + Tk.numEnd (l.drop p) = i1 + 1 + Tk.frac (l.drop p)) := by show _ = _; unfold Tk.numEnd; rw [if_pos hf]; have := HI1.out; omega
            have HDr : Hid ((l.drop p).drop (Tk.digs (l.drop p) + 1) = l.drop (i1 + 1)) := by show _ = _; rw [List.drop_drop, show p + (Tk.digs (l.drop p) + 1) = i1 + 1 by have := HI1.out; omega]
            rw [hf]
            clear hf HFQ
            go_wp2_with fail
            go_loop [7] (fun n => ∃ k : Nat, i1 + 1 + k ≤ l.length ∧ n = .int .i64 (i1 + 1 + k : Nat) ∧ Hid (∀ j (h : i1 + 1 + j < l.length), j < k → Tk.isDig l[i1 + 1 + j] = true)) (fun i => l.length - (intOf i).toNat)
            case atStart => exact ⟨0, by omega, by go_num, fun _ _ h => by omega⟩
            case round =>
              obtain ⟨k, hk, rfl, HA⟩ := hrel
              have HE : Hid (∀ (hs : ∀ h : i1 + 1 + k < l.length, Tk.isDig l[i1 + 1 + k] = false), Tk.frac (l.drop p) = k) := by
                show ∀ _, _
                intro hs
                rw [HFr.out]
                refine Tk.lead_eq _ _ k (by simp; omega) (fun j h hj => ?_) (fun h => ?_)
                · rw [List.getElem_drop]; exact HA.out j (by simp at h; omega) hj
                · rw [List.getElem_drop]; exact hs (by simp at h; omega)
              by_cases hlk : i1 + 1 + k < l.length
              · by_cases hd : Tk.isDig l[i1 + 1 + k] = true
                · have HD := Lib.hid hd
                  have HN : Hid (∀ j (h : i1 + 1 + j < l.length), j < k + 1 → Tk.isDig l[i1 + 1 + j] = true) := fun j h hj => if e : j = k then by subst e; exact HD.out else HA.out j h (by omega)
                  clear hd
                  go_wp2_with fail
                  refine (rdigit_any _ _).mono ?_
                  rintro e w' ⟨rfl, rfl⟩
                  rw [HD.out]
                  go_wp2_with fail
                  go_round
                  case rel => first | exact ⟨k + 1, by omega, by go_num, HN⟩ | ((repeat apply Exists.intro); exact ⟨⟨k + 1, by omega, by go_num, HN⟩, rfl⟩)
                  case measure => simp [intOf]; omega
                · have hd : Tk.isDig l[i1 + 1 + k] = false := by simpa using hd
                  have HD := Lib.hid hd
                  have HF : Hid (Tk.frac (l.drop p) = k) := HE.out (fun _ => hd)
                  clear hd
                  go_wp2_with fail
                  refine (rdigit_any _ _).mono ?_
                  rintro e w' ⟨rfl, rfl⟩
                  rw [HD.out]
                  go_wp2_with fail
                  go_meet
                  case rel => exact ⟨by rw [HNe.out, HF.out]; go_num, by rw [HDr.out, HF.out]; try rw [show i1 + 1 + k - (i1 + 1) = k by omega], rfl⟩
              · have HF : Hid (Tk.frac (l.drop p) = k) := HE.out (fun h => absurd h hlk)
                go_wp2_with fail
                go_meet
                case rel => exact ⟨by rw [HNe.out, HF.out]; go_num, by rw [HDr.out, HF.out]; try rw [show i1 + 1 + k - (i1 + 1) = k by omega], rfl⟩
          · have hf : Tk.hasFrac (l.drop p) = false := by simpa using hf
            have HF : Hid (Tk.frac (l.drop p) = 0) := by show _ = _; unfold Tk.frac; rw [hf]; rfl
            have HN : Hid (p + Tk.numEnd (l.drop p) = i1) := by show _ = _; unfold Tk.numEnd; rw [hf]; exact HI1.out
            rw [hf]
            clear hf
            go_wp2_with fail
            go_meet
            case rel => exact ⟨by rw [HN.out], by rw [HF.out]; rfl, rfl⟩
      case rest =>
        obtain ⟨rfl, rfl, rfl⟩ := hcut
        clear HFQ
        have hne := numEnd_le (l.drop p)
        rw [List.length_drop] at hne
        obtain ⟨i2, hi2⟩ : ∃ i2, p + Tk.numEnd (l.drop p) = i2 := ⟨_, rfl⟩
        have hi2l : i2 ≤ l.length := by omega
        rw [hi2]
        have HI2 := Lib.hid hi2
        have HPQ : Hid (Tk.pct (l.drop p) = if h : i2 < l.length then decide (l[i2].toNat = 37) else false) := by
          show _ = _
          unfold Tk.pct
          subst hi2
          split
          · rename_i h
            rw [get_drop l p _ h]
          · rename_i h
            rw [get_past l p _ (by omega)]
            rfl
        clear hi2
        go_upto_region 12 with fail
        go_cut [82] (fun s wx => s = .bool (Tk.pct (l.drop p)) ∧ wx = w.alloc (.cells #[.int .i64 0, .int .i64 0] 33))
        case first =>
          as_aux_lemma =>
            by_cases h1 : i2 < l.length
            · have HX : Hid (Tk.pct (l.drop p) = ((l[i2].toNat : Int) == 37)) := by
                show _ = _
                rw [HPQ.out, dif_pos h1, Bool.eq_iff_iff]; simp; omega
              go_wp2_with fail
              go_meet
              case rel => exact ⟨by rw [HX.out], rfl⟩
            · have HX : Hid (Tk.pct (l.drop p) = false) := by show _ = _; rw [HPQ.out, dif_neg h1]
              go_wp2_with fail
              go_meet
              case rel => exact ⟨by rw [HX.out], rfl⟩
        case rest =>
          obtain ⟨rfl, rfl⟩ := hcut
          go_upto_if 82 with fail
          go_cut [7, 11, 12] (fun s7 s11 s12 wx => s7 = .int .i64 (p + Tk.numLen (l.drop p) : Nat) ∧ s11 = .int .i64 (Tk.most (l.drop p)) ∧ s12 = .int .i64 (Tk.den0 (l.drop p)) ∧ wx = w.alloc (.cells #[.int .i64 0, .int .i64 0] 33))
          case first =>
            as_aux_lemma =>
              by_cases hp' : Tk.pct (l.drop p) = true
              · have HN : Hid (p + Tk.numLen (l.drop p) = i2 + 1) := by show _ = _; unfold Tk.numLen; rw [if_pos hp']; have := HI2.out; omega
                have HP := Lib.hid hp'
                rw [hp']
                clear hp'
                go_wp2_with fail
                go_meet
                case rel => exact ⟨by rw [HN.out]; go_num, by unfold Tk.most; rw [HP.out]; rfl, by unfold Tk.den0; rw [HP.out]; rfl, rfl⟩
              · have hp' : Tk.pct (l.drop p) = false := by simpa using hp'
                have HN : Hid (p + Tk.numLen (l.drop p) = i2) := by show _ = _; unfold Tk.numLen; rw [hp']; exact HI2.out
                have HP := Lib.hid hp'
                rw [hp']
                clear hp'
                go_wp2_with fail
                go_meet
                case rel => exact ⟨by rw [HN.out], by unfold Tk.most; rw [HP.out]; rfl, by unfold Tk.den0; rw [HP.out]; rfl, rfl⟩
          case rest =>
            obtain ⟨rfl, rfl, rfl, rfl⟩ := hcut
            clear HPQ
            have hnl := numLen_le (l.drop p)
            rw [List.length_drop] at hnl
            have HBQ := Lib.hid (rbad_eq l p)
            have HOV := Lib.hid (Tk.read_over (l.drop p))
            have HMA := Lib.hid (Tk.read_many (l.drop p))
            have HSM := Lib.hid (Tk.part_small (l.drop p))
            have HWD := Lib.hid (Tk.whole_dig (l.drop p))
            have HPD := Lib.hid (Tk.part_dig (l.drop p))
            have HWL : Hid (((l.drop p).take (Tk.digs (l.drop p))).length = Tk.digs (l.drop p)) := by show _ = _; rw [List.length_take, List.length_drop, Nat.min_eq_left (by omega)]
            have HPL := Lib.hid (Tk.frac_len' (l.drop p))
            have HNN : Hid (Tk.numN (l.drop p) = Tk.val ((l.drop p).take (Tk.digs (l.drop p)) ++ ((l.drop p).drop (Tk.digs (l.drop p) + 1)).take (Tk.frac (l.drop p)))) := rfl
            have hmo : Tk.most (l.drop p) = 4 ∨ Tk.most (l.drop p) = 6 := by unfold Tk.most; split <;> simp
            have hd0 : Tk.den0 (l.drop p) = 1 ∨ Tk.den0 (l.drop p) = 100 := by unfold Tk.den0; split <;> simp
            have HP6 := Lib.hid (Tk.pow_le6 (l.drop p))
            have HND : Hid (Tk.numD (l.drop p) = Tk.den0 (l.drop p) * 10 ^ Tk.frac (l.drop p)) := rfl
            have HNB := Lib.hid (Tk.not_bad (l.drop p))
            clear HI1 HI2 hne hi1l hi1p hi2l hdl
            generalize hy : l.drop p = y at *
            have HY := Lib.hid hy
            clear hy
            generalize y.take (Tk.digs y) = W at *
            generalize (y.drop (Tk.digs y + 1)).take (Tk.frac y) = P at *
            obtain ⟨i3, hi3⟩ : ∃ i3, p + Tk.numLen y = i3 := ⟨_, rfl⟩
            have hi3l : i3 ≤ l.length := by omega
            have HI3 := Lib.hid hi3
            rw [hi3] at HBQ
            rw [hi3]
            clear hi3 hnl
            obtain ⟨MO, hMO⟩ : ∃ MO, Tk.most y = MO := ⟨_, rfl⟩
            rw [hMO] at hmo HBQ HNB HP6
            rw [hMO]
            clear hMO
            obtain ⟨DE, hDE⟩ : ∃ DE, Tk.den0 y = DE := ⟨_, rfl⟩
            rw [hDE] at hd0 HND HOV HSM HP6
            rw [hDE]
            clear hDE
            go_upto_region 15 with fail
            go_cut [116] (fun s wx => s = .bool (Tk.badNum y) ∧ wx = w.alloc (.cells #[.int .i64 0, .int .i64 0] 33))
            case first =>
              as_aux_lemma =>
                by_cases b1 : 1 < W.length ∧ (W.getD 0 0).toNat = 48
                · obtain ⟨b1, b2⟩ := b1
                  rw [getD_eq W 0 (by omega)] at b2
                  have g2 : ((W[0].toNat : Int) == 48) = true := by simp; omega
                  have HX : Hid (Tk.badNum y = true) := by show _ = _; rw [HBQ.out, getD_eq W 0 (by omega)]; simp [b1, b2]
                  clear b2
                  go_wp2_with fail
                  go_meet
                  case rel => exact ⟨by rw [HX.out], rfl⟩
                · have HB1 : Hid (Tk.badNum y = (decide (MO < P.length) || if h : i3 < l.length then Tk.isLow l[i3] || decide (l[i3].toNat = 95) else false)) := by
                    show _ = _
                    rw [HBQ.out]
                    have : (decide (1 < W.length) && decide ((W.getD 0 0).toNat = 48)) = false := by rw [Bool.eq_false_iff]; simpa using b1
                    rw [this, Bool.false_or]
                  have HQ : Hid (∀ G : Prop, ((h : 1 < W.length) → ((W[0].toNat : Int) == 48) = false → G) → (¬ 1 < W.length → G) → G) := by
                    show ∀ G : Prop, _
                    intro G k1 k2
                    by_cases h : 1 < W.length
                    · exact k1 h (by rw [getD_eq W 0 (by omega)] at b1; have : ¬ W[0].toNat = 48 := fun e => b1 ⟨h, e⟩; simp; omega)
                    · exact k2 h
                  clear b1
                  by_cases b3 : MO < P.length
                  · have HX : Hid (Tk.badNum y = true) := by show _ = _; rw [HB1.out]; simp [b3]
                    refine HQ.out _ (fun q1 q2 => ?_) (fun q1 => ?_)
                    all_goals
                      go_wp2_with fail
                      go_meet
                      case rel => exact ⟨by rw [HX.out], rfl⟩
                  · have HB2 : Hid (Tk.badNum y = if h : i3 < l.length then Tk.isLow l[i3] || decide (l[i3].toNat = 95) else false) := by show _ = _; rw [HB1.out]; simp [b3]
                    by_cases b4 : i3 < l.length
                    · by_cases b5 : Tk.isLow l[i3] = true
                      · have HX : Hid (Tk.badNum y = true) := by show _ = _; rw [HB2.out, dif_pos b4, b5]; rfl
                        have HL5 := Lib.hid b5
                        clear b5
                        refine HQ.out _ (fun q1 q2 => ?_) (fun q1 => ?_)
                        all_goals
                          go_wp2_with fail
                          refine (rlower_any _ _).mono ?_
                          rintro e w' ⟨rfl, rfl⟩
                          rw [HL5.out]
                          go_wp2_with fail
                          go_meet
                          case rel => exact ⟨by rw [HX.out], rfl⟩
                      · have b5 : Tk.isLow l[i3] = false := by simpa using b5
                        have HX : Hid (Tk.badNum y = ((l[i3].toNat : Int) == 95)) := by
                          show _ = _
                          rw [HB2.out, dif_pos b4, b5, Bool.false_or, Bool.eq_iff_iff]; simp; omega
                        have HL5 := Lib.hid b5
                        clear b5
                        refine HQ.out _ (fun q1 q2 => ?_) (fun q1 => ?_)
                        all_goals
                          go_wp2_with fail
                          refine (rlower_any _ _).mono ?_
                          rintro e w' ⟨rfl, rfl⟩
                          rw [HL5.out]
                          go_wp2_with fail
                          go_meet
                          case rel => exact ⟨by rw [HX.out], rfl⟩
                    · have HX : Hid (Tk.badNum y = false) := by show _ = _; rw [HB2.out, dif_neg b4]
                      refine HQ.out _ (fun q1 q2 => ?_) (fun q1 => ?_)
                      all_goals
                        go_wp2_with fail
                        go_meet
                        case rel => exact ⟨by rw [HX.out], rfl⟩
            case rest =>
              obtain ⟨rfl, rfl⟩ := hcut
              by_cases hbad : Tk.badNum y = true
              · have HX : Hid (rnumErr p y = .returned (.tuple #[.agg #[.int .i64 0, .int .i64 0], .int .i64 i3, .int .i64 6])) := by
                  show _ = _
                  unfold rnumErr Tk.readNum
                  rw [if_pos hbad, HI3.out]
                  rfl
                rw [hbad]
                clear hbad
                go_wp2_with fail
                refine bodyPost_ret (v := .tuple #[.agg #[.int .i64 0, .int .i64 0], .int .i64 i3, .int .i64 6]) (by simp [results, Tryz.results43, go_sem]) rfl ⟨by rw [HY.out]; exact HX.out.symm, ?_⟩
                exact (Below.refl _ _).alloc (Nat.le_refl _) _
              · have hbad : Tk.badNum y = false := by simpa using hbad
                have HB := Lib.hid hbad
                have HER : Hid (Tk.readNum y = .error 4 → rnumErr p y = .returned (.tuple #[.agg #[.int .i64 0, .int .i64 0], .int .i64 i3, .int .i64 4])) := by
                  show _ → _
                  intro h
                  unfold rnumErr
                  rw [h, HI3.out]
                  rfl
                have hPl : P.length ≤ 6 := by rw [HPL.out]; have := HNB.out hbad; omega
                rw [hbad]
                clear hbad hmo HBQ
                by_cases h15 : 15 < W.length
                · have HX := Lib.hid (HER.out (HMA.out HB.out (by rw [← HWL.out]; exact h15)))
                  go_wp2_with fail
                  refine bodyPost_ret (v := .tuple #[.agg #[.int .i64 0, .int .i64 0], .int .i64 i3, .int .i64 4]) (by simp [results, Tryz.results43, go_sem]) rfl ⟨by rw [HY.out]; exact HX.out.symm, ?_⟩
                  exact (Below.refl _ _).alloc (Nat.le_refl _) _
                · have g15 : decide (15 < W.length) = false := decide_eq_false h15
                  have HVL : Hid (∀ k, Tk.val (W.take k) ≤ 1000000000000000) := by
                    show ∀ k, _
                    intro k
                    have h1 := Tk.val_lt (W.take k) (fun c hc => HWD.out c (List.mem_of_mem_take hc))
                    have h2 : 10 ^ (W.take k).length ≤ 10 ^ 15 := Nat.pow_le_pow_right (by omega) (by rw [List.length_take]; omega)
                    omega
                  go_wp2_with fail
                  clear g15
                  go_loop [13, 14] (fun s13 s14 => ∃ k : Nat, k ≤ W.length ∧ s14 = .int .i64 k ∧ s13 = .int .i64 (Tk.val (W.take k))) (fun _ i => W.length - (intOf i).toNat)
                  case atStart => exact ⟨0, Nat.zero_le _, rfl, rfl⟩
                  case round =>
                    obtain ⟨k, hk, rfl, rfl⟩ := hrel
                    have hvk := HVL.out k
                    by_cases hlt : k < W.length
                    · have HV1 : Hid (Tk.val (W.take (k + 1)) = Tk.val (W.take k) * 10 + (W[k].toNat - 48)) := by show _ = _; rw [List.take_succ_eq_append_getElem hlt, Tk.val_append]; simp [Tk.val]
                      have hdg := of_decide_eq_true (HWD.out W[k] (List.getElem_mem _))
                      obtain ⟨hd1, hd2⟩ := hdg
                      generalize Tk.val (W.take k) = V at *
                      go_wp2_with fail
                      go_round
                      case rel => exact ⟨k + 1, by omega, by go_num, by rw [HV1.out]; go_num⟩
                      case measure => simp [intOf]; omega
                    · have HTk : Hid (W.take k = W) := List.take_of_length_le (by omega)
                      rw [HTk.out] at hvk
                      rw [HTk.out]
                      obtain ⟨V, hV⟩ : ∃ V, Tk.val W = V := ⟨_, rfl⟩
                      rw [hV] at hvk HOV HSM
                      rw [hV]
                      have HVv := Lib.hid hV
                      clear hV
                      by_cases hov : 1000000000000 * DE < V
                      · have HX := Lib.hid (HER.out (HOV.out HB.out hov))
                        go_wp2_with fail
                        refine bodyPost_ret (v := .tuple #[.agg #[.int .i64 0, .int .i64 0], .int .i64 i3, .int .i64 4]) (by simp [results, Tryz.results43, go_sem]) rfl ⟨by rw [HY.out]; exact HX.out.symm, ?_⟩
                        exact (Below.refl _ _).alloc (Nat.le_refl _) _
                      · have gov : decide (1000000000000 * (DE : Int) < (V : Int)) = false := by simp; omega
                        have HSk := Lib.hid (HSM.out HB.out (by omega))
                        have HPk : Hid (∀ k, k ≤ P.length → DE * 10 ^ k ≤ 1000000) := fun k hk => HP6.out k (by rw [← HPL.out]; exact hk) (HNB.out HB.out)
                        go_wp2_with fail
                        clear gov HTk HOV HSM HER HMA
                        go_loop [12, 13, 15] (fun s12 s13 s15 => ∃ k D N : Nat, k ≤ P.length ∧ D ≤ 1000000 ∧ N ≤ 1000000000002000000 ∧ s15 = .int .i64 k ∧ s12 = .int .i64 D ∧ s13 = .int .i64 N ∧ Hid (D = DE * 10 ^ k) ∧ Hid (N = Tk.val (W ++ P.take k))) (fun _ _ i => P.length - (intOf i).toNat)
                        case atStart => exact ⟨0, DE, V, Nat.zero_le _, by omega, by omega, rfl, rfl, rfl, by show _ = _; simp, by show _ = _; rw [List.take_zero, List.append_nil, HVv.out]⟩
                        case round =>
                          obtain ⟨k, D, N, hk, hD, hN, rfl, rfl, rfl, HD, HN⟩ := hrel
                          by_cases hlt : k < P.length
                          · have HD1 : Hid (D * 10 = DE * 10 ^ (k + 1)) := by show _ = _; rw [HD.out, Nat.pow_succ, Nat.mul_assoc]
                            have hD1 : D * 10 ≤ 1000000 := by rw [HD1.out]; exact HPk.out (k + 1) hlt
                            have HN1 : Hid (N * 10 + (P[k].toNat - 48) = Tk.val (W ++ P.take (k + 1))) := by show _ = _; rw [List.take_succ_eq_append_getElem hlt, ← List.append_assoc, Tk.val_append (W ++ P.take k) [P[k]], ← HN.out]; simp [Tk.val]
                            have hN1 : N * 10 + (P[k].toNat - 48) ≤ 1000000000002000000 := by rw [HN1.out]; exact HSk.out (k + 1) (by rw [← HPL.out]; exact hlt)
                            have hdg := of_decide_eq_true (HPD.out P[k] (List.getElem_mem _))
                            obtain ⟨hd1, hd2⟩ := hdg
                            go_wp2_with fail
                            go_round
                            case rel => exact ⟨k + 1, D * 10, N * 10 + (P[k].toNat - 48), by omega, hD1, hN1, by go_num, by go_num, by go_num, HD1, HN1⟩
                            case measure => simp [intOf]; omega
                          · have HN2 : Hid (N = Tk.numN y) := by show _ = _; rw [HN.out, HNN.out, List.take_of_length_le (by omega)]
                            have HD2 : Hid (D = Tk.numD y) := by show _ = _; rw [HD.out, HND.out, ← HPL.out, show k = P.length by omega]
                            have hD0 : 1 ≤ D := by rw [HD2.out]; exact Tk.numD_pos y
                            have HX := Lib.hid (rnum_new p y N D HB.out HN2.out HD2.out hD0)
                            clear HD HN HN2 HD2
                            go_wp2_with fail
                            refine (refNew_any _ _ _ (by omega) (by omega) (by omega) (by omega)).mono ?_
                            rintro e w' ⟨rfl, hb⟩
                            generalize hx : newI (N : Int) (D : Int) = x at *
                            clear hx
                            obtain ⟨x1, x2, x3⟩ := x
                            simp only [ratErr]
                            have hB0 : Below w.heap.size w w' := ((Below.refl _ _).alloc (Nat.le_refl _) _).trans (hb.mono (by simp))
                            have hz : w.heap.size < w'.heap.size := by have := hb.size; simp at this; omega
                            have hbl := (hb.block w.heap.size (by simp)).trans (heap_alloc_new w _)
                            have c0 := Lib.cell_of_heap hbl 0
                            have c1 := Lib.cell_of_heap hbl 1
                            simp only [List.getElem?_toArray, List.getElem?_cons_zero, List.getElem?_cons_succ] at c0 c1
                            have f0 := Lib.frozen_of_heap hbl 0
                            have f1 := Lib.frozen_of_heap hbl 1
                            clear hbl
                            go_wp2_with fail
                            refine bodyPost_ret (v := .tuple #[.agg #[.int .i64 x1, .int .i64 x2], .int .i64 i3, .int .i64 x3]) (by simp [results, Tryz.results43, go_sem, c0, c1, hz]) rfl ⟨by rw [HY.out, HX.out, HI3.out], ?_⟩
                            refine Below.alloc ?_ (by simp; omega) _
                            exact (hB0.setCell (by simp) _).setCell (by simp) _
end Go.Proofs.YtpdbkbadjgellaaGreatDoor

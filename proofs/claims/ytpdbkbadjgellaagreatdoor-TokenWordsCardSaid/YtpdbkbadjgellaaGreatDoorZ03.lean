/-
  The walk of package token's readNumber.
  The walk of package token's read.
-/
import Derived.Test.YtpdbkbadjgellaaGreatDoorZ02
import Derived.Test.YtpdbkbadjgellaaGreatDoorZ01
import Derived.Deep.DeepCutAuto
namespace Go.Proofs.YtpdbkbadjgellaaGreatDoor
open Go.RowKit
attribute [local go_sem] ba_get ba_extract take_rest

theorem digs_le (l : List UInt8) : Tk.digs l ≤ l.length := Tk.lead_le _ _

/-- The test for a point and a digit, place by place. -/
theorem hasFrac_eq (l : List UInt8) : Tk.hasFrac l = if h : Tk.digs l + 1 < l.length then decide (l[Tk.digs l].toNat = 46) && Tk.isDig l[Tk.digs l + 1] else false := by
  unfold Tk.hasFrac
  split
  · rename_i h
    rw [getD_eq l _ (by omega), getD_eq l _ h]
  · rename_i h
    have : l.getD (Tk.digs l + 1) 0 = 0 := by simp [List.getD_eq_getElem?_getD, List.getElem?_eq_none (show l.length ≤ Tk.digs l + 1 by omega)]
    rw [this]
    simp [Tk.isDig]

theorem frac_le (l : List UInt8) : Tk.frac l ≤ l.length := by
  unfold Tk.frac
  split
  · have := digs_le (l.drop (Tk.digs l + 1)); simp at this; omega
  · omega
theorem numEnd_le (l : List UInt8) : Tk.numEnd l ≤ l.length := by
  unfold Tk.numEnd Tk.frac
  have hd := digs_le l
  split
  · rename_i h
    have := digs_le (l.drop (Tk.digs l + 1)); simp at this
    have h1 : Tk.digs l + 1 < l.length := by
      rcases Nat.lt_or_ge (Tk.digs l + 1) l.length with h | h'
      · exact h
      · rw [hasFrac_eq, dif_neg (by omega)] at h; cases h
    omega
  · omega
theorem pct_eq (l : List UInt8) : Tk.pct l = if h : Tk.numEnd l < l.length then decide (l[Tk.numEnd l].toNat = 37) else false := by
  unfold Tk.pct
  split
  · rename_i h
    rw [getD_eq l _ h]
  · rename_i h
    have : l.getD (Tk.numEnd l) 0 = 0 := by simp [List.getD_eq_getElem?_getD, List.getElem?_eq_none (show l.length ≤ Tk.numEnd l by omega)]
    rw [this]
    simp
theorem pct_lt (l : List UInt8) (h : Tk.pct l = true) : Tk.numEnd l < l.length := by
  rcases Nat.lt_or_ge (Tk.numEnd l) l.length with h' | h'
  · exact h'
  · rw [pct_eq, dif_neg (by omega)] at h; cases h

theorem numLen_le (l : List UInt8) : Tk.numLen l ≤ l.length := by
  unfold Tk.numLen
  have := numEnd_le l
  split
  · rename_i h; have := pct_lt l h; omega
  · omega
/-- A token as a value; a token, a length and an error as a result. -/
def tokV (t : Tk.Tok) : Value := .agg #[.int .i64 t.kind, .string ⟨t.text.toArray⟩, .int .i64 t.num, .int .i64 t.den, .int .i64 t.day, .int .i64 t.place]
def tokErr (x : Tk.Tok × Int × Int) : Ending := .returned (.tuple #[tokV x.1, .int .i64 x.2.1, .int .i64 x.2.2])
def numRes : Except Int (Nat × Nat × Nat) → Tk.Tok × Int × Int
  | .error e => ({}, 0, e)
  | .ok (a, b, n) => ({ kind := 2, num := a, den := b }, n, 0)
def badNext (l : List UInt8) : Bool := Tk.isLow (l.getD (Tk.numLen l) 0) || decide ((l.getD (Tk.numLen l) 0).toNat = 95)
theorem badNext_eq (l : List UInt8) : badNext l = if h : Tk.numLen l < l.length then Tk.isLow l[Tk.numLen l] || decide (l[Tk.numLen l].toNat = 95) else false := by
  unfold badNext
  split
  · rename_i h
    rw [getD_eq l _ h]
  · rename_i h
    have : l.getD (Tk.numLen l) 0 = 0 := by simp [List.getD_eq_getElem?_getD, List.getElem?_eq_none (show l.length ≤ Tk.numLen l by omega)]
    rw [this]
    simp [Tk.isLow]
theorem badNum_eq (l : List UInt8) (h0 : 0 < l.length) : Tk.badNum l = ((decide (1 < Tk.digs l) && decide (l[0].toNat = 48)) || (decide (Tk.most l < Tk.frac l) || badNext l)) := by
  unfold Tk.badNum badNext
  rw [getD_eq l 0 h0, Bool.or_assoc]

theorem new_num (l : List UInt8) (N D : Nat) (hb : Tk.badNum l = false) (hN : Hid (N = Tk.numN l)) (hD : Hid (D = Tk.numD l)) (hD0 : 1 ≤ D) :
    ∃ x : Int × Int × Int, ((Hid (Tk.readNum l = .error x.2.2) ∧ x.2.2 ≠ 0) ∨ (Hid (numRes (Tk.readNum l) = ({ kind := 2, num := x.1, den := x.2.1 }, (Tk.numLen l : Int), 0)) ∧ x.2.2 = 0)) ∧ Hid (newI N D = x) := by
  have e1 : newI N D = fitR false N D := by
    unfold newI
    rw [if_neg (by omega), Int.natAbs_natCast, Int.natAbs_natCast, show decide ((N : Int) < 0) = false from decide_eq_false (by omega), show decide ((D : Int) < 0) = false from decide_eq_false (by omega)]
    rfl
  cases hr : Tk.newR N D with
  | none =>
    refine ⟨(0, 0, 4), .inl ⟨?_, by simp⟩, ?_⟩
    · show _ = _
      unfold Tk.readNum
      rw [if_neg (by rw [hb]; simp), ← hN.out, ← hD.out, hr]
    · show _ = _
      rw [e1]; unfold fitR; rw [hr]
  | some y =>
    obtain ⟨a, b⟩ := y
    refine ⟨(a, b, 0), .inr ⟨?_, rfl⟩, ?_⟩
    · show _ = _
      unfold Tk.readNum
      rw [if_neg (by rw [hb]; simp), ← hN.out, ← hD.out, hr]
      rfl
    · show _ = _
      rw [e1]; unfold fitR; rw [hr]; rfl

set_option maxHeartbeats 4000000 in
set_option maxRecDepth 100000 in
theorem readNumber_any (l : List UInt8) (w : World) (hs : l.length ≤ 20000) (h0 : 0 < l.length) :
    Calls Tryz.prog 86 #[.string ⟨l.toArray⟩] w fun e w' => e = tokErr (numRes (Tk.readNum l)) ∧ Below w.heap.size w w' := by
  have hdl := digs_le l
  go_enter Tryz.func86, Tryz.ntmps86
  go_upto_region 3 with (go_at_call 111; refine (digits_any _ _ (by unfold maxLen; omega)).mono ?_; rintro e w' ⟨rfl, rfl⟩)
  go_cut [35] (fun s wx => s = .bool (Tk.hasFrac l) ∧ wx = w.alloc (.cells #[.int .i64 0, .string ⟨#[]⟩, .int .i64 0, .int .i64 0, .int .i64 0, .int .i64 0] 43))
  case first =>
    have HE := Lib.hid (hasFrac_eq l)
    by_cases h1 : Tk.digs l + 1 < l.length
    · by_cases h2 : l[Tk.digs l].toNat = 46
      · have g2 : ((l[Tk.digs l].toNat : Int) == 46) = true := by simp; omega
        have HX : Hid (Tk.hasFrac l = Tk.isDig l[Tk.digs l + 1]) := by show _ = _; rw [HE.out, dif_pos h1]; simp [h2]
        clear h2
        go_wp2_with (go_at_call 67; refine (isDigit_any _ _).mono ?_; rintro e w' ⟨rfl, rfl⟩)
        go_meet
        case rel => exact ⟨by rw [HX.out], rfl⟩
      · have g2 : ((l[Tk.digs l].toNat : Int) == 46) = false := by simp; omega
        have HX : Hid (Tk.hasFrac l = false) := by show _ = _; rw [HE.out, dif_pos h1]; simp [h2]
        clear h2
        go_wp2_with fail
        go_meet
        case rel => exact ⟨by rw [HX.out], rfl⟩
    · have HX : Hid (Tk.hasFrac l = false) := by show _ = _; rw [HE.out, dif_neg h1]
      go_wp2_with fail
      go_meet
      case rel => exact ⟨by rw [HX.out], rfl⟩
  case rest =>
    obtain ⟨rfl, rfl⟩ := hcut
    have HE := Lib.hid (hasFrac_eq l)
    have hfr : Tk.frac l ≤ l.length := frac_le l
    go_upto_if 35 with fail
    go_cut [6, 7] (fun s6 s7 wx => s6 = .int .i64 (Tk.numEnd l) ∧ s7 = .int .i64 (Tk.frac l) ∧ wx = w.alloc (.cells #[.int .i64 0, .string ⟨#[]⟩, .int .i64 0, .int .i64 0, .int .i64 0, .int .i64 0] 43))
    case first =>
      by_cases hf : Tk.hasFrac l = true
      · have h1 : Tk.digs l + 1 < l.length := by
          rcases Nat.lt_or_ge (Tk.digs l + 1) l.length with h | h
          · exact h
          · rw [HE.out, dif_neg (by omega)] at hf; cases hf
        have HF : Hid (Tk.frac l = Tk.digs (l.drop (Tk.digs l + 1))) := by show _ = _; unfold Tk.frac; rw [if_pos hf]
        have hfd := digs_le (l.drop (Tk.digs l + 1))
        rw [List.length_drop] at hfd
        have HN : Hid (Tk.numEnd l = Tk.digs l + (1 + Tk.frac l)) := by show _ = _; unfold Tk.numEnd; rw [if_pos hf]
        rw [hf]
        clear hf
        go_wp2_with (go_at_call 111; refine (digits_any _ _ (by unfold maxLen; simp; omega)).mono ?_; rintro e w' ⟨rfl, rfl⟩)
        go_meet
        case rel => exact ⟨by rw [HN.out, HF.out]; go_num, by rw [HF.out], rfl⟩
      · have hf : Tk.hasFrac l = false := by simpa using hf
        have HF : Hid (Tk.frac l = 0) := by show _ = _; unfold Tk.frac; rw [hf]; rfl
        have HN : Hid (Tk.numEnd l = Tk.digs l) := by show _ = _; unfold Tk.numEnd; rw [hf]; rfl
        rw [hf]
        clear hf
        go_wp2_with fail
        go_meet
        case rel => exact ⟨by rw [HN.out], by rw [HF.out]; rfl, rfl⟩
    case rest =>
      obtain ⟨rfl, rfl, rfl⟩ := hcut
      clear HE
      have hne := numEnd_le l
      go_upto_region 8 with fail
      go_cut [57] (fun s wx => s = .bool (Tk.pct l) ∧ wx = w.alloc (.cells #[.int .i64 0, .string ⟨#[]⟩, .int .i64 0, .int .i64 0, .int .i64 0, .int .i64 0] 43))
      case first =>
        have HE := Lib.hid (pct_eq l)
        by_cases h1 : Tk.numEnd l < l.length
        · have HX : Hid (Tk.pct l = ((l[Tk.numEnd l].toNat : Int) == 37)) := by
            show _ = _
            rw [HE.out, dif_pos h1, Bool.eq_iff_iff]; simp; omega
          go_wp2_with fail
          go_meet
          case rel => exact ⟨by rw [HX.out], rfl⟩
        · have HX : Hid (Tk.pct l = false) := by show _ = _; rw [HE.out, dif_neg h1]
          go_wp2_with fail
          go_meet
          case rel => exact ⟨by rw [HX.out], rfl⟩
      case rest =>
        obtain ⟨rfl, rfl⟩ := hcut
        have HPL := Lib.hid (pct_lt l)
        go_upto_if 57 with fail
        go_cut [6, 9, 10] (fun s6 s9 s10 wx => s6 = .int .i64 (Tk.numLen l) ∧ s9 = .int .i64 (Tk.most l) ∧ s10 = .int .i64 (Tk.den0 l) ∧ wx = w.alloc (.cells #[.int .i64 0, .string ⟨#[]⟩, .int .i64 0, .int .i64 0, .int .i64 0, .int .i64 0] 43))
        case first =>
          by_cases hp : Tk.pct l = true
          · have HN : Hid (Tk.numLen l = Tk.numEnd l + 1) := by show _ = _; unfold Tk.numLen; rw [if_pos hp]
            have HP := Lib.hid hp
            rw [hp]
            clear hp
            go_wp2_with fail
            go_meet
            case rel => exact ⟨by rw [HN.out]; go_num, by unfold Tk.most; rw [HP.out]; rfl, by unfold Tk.den0; rw [HP.out]; rfl, rfl⟩
          · have hp : Tk.pct l = false := by simpa using hp
            have HN : Hid (Tk.numLen l = Tk.numEnd l) := by show _ = _; unfold Tk.numLen; rw [hp]; rfl
            have HP := Lib.hid hp
            rw [hp]
            clear hp
            go_wp2_with fail
            go_meet
            case rel => exact ⟨by rw [HN.out], by unfold Tk.most; rw [HP.out]; rfl, by unfold Tk.den0; rw [HP.out]; rfl, rfl⟩
        case rest =>
          obtain ⟨rfl, rfl, rfl, rfl⟩ := hcut
          have hnl := numLen_le l
          have hmo : Tk.most l = 4 ∨ Tk.most l = 6 := by unfold Tk.most; split <;> simp
          have hd0 : Tk.den0 l = 1 ∨ Tk.den0 l = 100 := by unfold Tk.den0; split <;> simp
          go_upto_region 11 with fail
          go_cut [89] (fun s wx => s = .bool (Tk.badNum l) ∧ wx = w.alloc (.cells #[.int .i64 0, .string ⟨#[]⟩, .int .i64 0, .int .i64 0, .int .i64 0, .int .i64 0] 43))
          case first =>
            have HB := Lib.hid (badNum_eq l h0)
            have gl : (0 : Int) < l.length := by omega
            by_cases b1 : 1 < Tk.digs l ∧ l[0].toNat = 48
            · obtain ⟨b1, b2⟩ := b1
              have g2 : ((l[0].toNat : Int) == 48) = true := by simp; omega
              have HX : Hid (Tk.badNum l = true) := by show _ = _; rw [HB.out]; simp [b1, b2]
              clear b2
              go_wp2_with fail
              go_meet
              case rel => exact ⟨by rw [HX.out], rfl⟩
            · have HB1 : Hid (Tk.badNum l = (decide (Tk.most l < Tk.frac l) || badNext l)) := by
                show _ = _
                rw [HB.out]
                have : (decide (1 < Tk.digs l) && decide (l[0].toNat = 48)) = false := by rw [Bool.eq_false_iff]; simpa using b1
                rw [this, Bool.false_or]
              have HQ : Hid (∀ G : Prop, (1 < Tk.digs l → ((l[0].toNat : Int) == 48) = false → G) → (¬ 1 < Tk.digs l → G) → G) := by
                show ∀ G : Prop, _
                intro G k1 k2
                by_cases h : 1 < Tk.digs l
                · exact k1 h (by have : ¬ l[0].toNat = 48 := fun e => b1 ⟨h, e⟩; simp; omega)
                · exact k2 h
              clear HB b1
              by_cases b3 : Tk.most l < Tk.frac l
              · have HX : Hid (Tk.badNum l = true) := by show _ = _; rw [HB1.out]; simp [b3]
                refine HQ.out _ (fun q1 q2 => ?_) (fun q1 => ?_)
                all_goals
                  go_wp2_with fail
                  go_meet
                  case rel => exact ⟨by rw [HX.out], rfl⟩
              · have HB2 : Hid (Tk.badNum l = badNext l) := by show _ = _; rw [HB1.out]; simp [b3]
                have HN2 := Lib.hid (badNext_eq l)
                by_cases b4 : Tk.numLen l < l.length
                · by_cases b5 : Tk.isLow l[Tk.numLen l] = true
                  · have HX : Hid (Tk.badNum l = true) := by show _ = _; rw [HB2.out, HN2.out, dif_pos b4, b5]; rfl
                    refine HQ.out _ (fun q1 q2 => ?_) (fun q1 => ?_)
                    all_goals
                      go_wp2_with (go_at_call 66; refine (isLower_any _ _).mono ?_; rintro e w' ⟨rfl, rfl⟩)
                      go_meet
                      case rel => exact ⟨by rw [HX.out], rfl⟩
                  · have b5 : Tk.isLow l[Tk.numLen l] = false := by simpa using b5
                    have HX : Hid (Tk.badNum l = ((l[Tk.numLen l].toNat : Int) == 95)) := by
                      show _ = _
                      rw [HB2.out, HN2.out, dif_pos b4, b5, Bool.false_or, Bool.eq_iff_iff]; simp; omega
                    refine HQ.out _ (fun q1 q2 => ?_) (fun q1 => ?_)
                    all_goals
                      go_wp2_with (go_at_call 66; refine (isLower_any _ _).mono ?_; rintro e w' ⟨rfl, rfl⟩)
                      go_meet
                      case rel => exact ⟨by rw [HX.out], rfl⟩
                · have HX : Hid (Tk.badNum l = false) := by show _ = _; rw [HB2.out, HN2.out, dif_neg b4]
                  refine HQ.out _ (fun q1 q2 => ?_) (fun q1 => ?_)
                  all_goals
                    go_wp2_with fail
                    go_meet
                    case rel => exact ⟨by rw [HX.out], rfl⟩
          case rest =>
            obtain ⟨rfl, rfl⟩ := hcut
            by_cases hbad : Tk.badNum l = true
            · have HX : Hid (Tk.readNum l = .error 6) := by show _ = _; unfold Tk.readNum; rw [if_pos hbad]
              rw [hbad]
              clear hbad
              go_wp2_with fail
              refine bodyPost_ret (v := .tuple #[.agg #[.int .i64 0, .string ⟨#[]⟩, .int .i64 0, .int .i64 0, .int .i64 0, .int .i64 0], .int .i64 0, .int .i64 6]) (by simp [results, Tryz.results86, go_sem]) rfl ⟨by rw [HX.out]; rfl, ?_⟩
              exact (Below.refl _ _).alloc (Nat.le_refl _) _
            · have hbad : Tk.badNum l = false := by simpa using hbad
              have HB := Lib.hid hbad
              have HM := Lib.hid (Tk.not_bad l hbad)
              rw [hbad]
              clear hbad hmo
              go_wp2_with fail
              go_loop [10, 92] (fun s10 s92 => ∃ k D : Nat, k ≤ Tk.frac l ∧ D ≤ 1000000 ∧ s92 = .int .i64 k ∧ s10 = .int .i64 D ∧ Hid (D = Tk.den0 l * 10 ^ k)) (fun _ i => Tk.frac l - (intOf i).toNat)
              case atStart => exact ⟨0, Tk.den0 l, Nat.zero_le _, by omega, rfl, rfl, by show _ = _; simp⟩
              case round =>
                obtain ⟨k, D, hk, hD, rfl, rfl, HD⟩ := hrel
                by_cases hlt : k < Tk.frac l
                · have HD1 : Hid (D * 10 = Tk.den0 l * 10 ^ (k + 1)) := by show _ = _; rw [HD.out, Nat.pow_succ, Nat.mul_assoc]
                  have hD1 : D * 10 ≤ 1000000 := by rw [HD1.out]; exact Tk.pow_le6 l (k + 1) hlt HM.out
                  go_wp2_with fail
                  go_round
                  case rel => exact ⟨k + 1, D * 10, by omega, by omega, by go_num, by go_num, HD1⟩
                  case measure => simp [intOf]; omega
                · have HD1 : Hid (D = Tk.numD l) := by
                    show _ = _
                    rw [HD.out, show k = Tk.frac l by omega]; rfl
                  clear HD
                  go_wp2_with fail
                  go_loop [11, 99] (fun s11 s99 => ∃ k N : Nat, k ≤ Tk.numEnd l ∧ N ≤ 1000000000000000010 ∧ s99 = .int .i64 k ∧ s11 = .int .i64 N ∧ Hid (N = Tk.val (Tk.pre l k))) (fun _ i => Tk.numEnd l - (intOf i).toNat)
                  case atStart => exact ⟨0, 0, Nat.zero_le _, by omega, rfl, rfl, by show _ = _; rw [Tk.pre_zero]; rfl⟩
                  case round =>
                    obtain ⟨k, N, hk, hN, rfl, rfl, HN⟩ := hrel
                    by_cases hlt : k < Tk.numEnd l
                    · have hkl : k < l.length := by omega
                      have hmin : k < min (Tk.numEnd l) l.length := by omega
                      rcases Tk.num_byte l k hlt hkl with ⟨hkd, hp, he⟩ | ⟨hd, he⟩
                      · have g1 : ((l[k].toNat : Int) == 46) = true := by simp; omega
                        have HN1 : Hid (N = Tk.val (Tk.pre l (k + 1))) := by show _ = _; rw [he]; exact HN.out
                        clear hp he hkd
                        go_wp2_with fail
                        go_round
                        case rel => exact ⟨k + 1, N, by omega, hN, by go_num, rfl, HN1⟩
                        case measure => simp [intOf]; omega
                      · have hd' := of_decide_eq_true hd
                        obtain ⟨d1, d2⟩ := hd'
                        have g1 : ((l[k].toNat : Int) == 46) = false := by simp; omega
                        have HN1 : Hid (N * 10 + (l[k].toNat - 48) = Tk.val (Tk.pre l (k + 1))) := by show _ = _; rw [he, Tk.val_append, ← HN.out]; simp [Tk.val]
                        by_cases hbig : 100000000000000000 < N
                        · have HX : Hid (Tk.readNum l = .error 4) := Tk.num_over l HB.out hne k hlt he (by rw [← HN.out]; exact hbig)
                          clear hd he
                          go_wp2_with fail
                          refine bodyPost_ret (v := .tuple #[.agg #[.int .i64 0, .string ⟨#[]⟩, .int .i64 0, .int .i64 0, .int .i64 0, .int .i64 0], .int .i64 0, .int .i64 4]) (by simp [results, Tryz.results86, go_sem]) rfl ⟨by rw [HX.out]; rfl, ?_⟩
                          exact (Below.refl _ _).alloc (Nat.le_refl _) _
                        · clear hd he
                          go_wp2_with fail
                          go_round
                          case rel => exact ⟨k + 1, N * 10 + (l[k].toNat - 48), by omega, by omega, by go_num, by go_num, HN1⟩
                          case measure => simp [intOf]; omega
                    · have HN1 : Hid (N = Tk.numN l) := by
                        show _ = _
                        rw [HN.out, Tk.numN_eq, show k = Tk.numEnd l by omega]
                      have hD0 : 1 ≤ D := by rw [HD1.out]; exact Tk.numD_pos l
                      obtain ⟨x, HR, HX⟩ := new_num l N D HB.out HN1 HD1 hD0
                      clear HN1 HN HD1
                      go_wp2_with fail
                      refine (new_any _ _ _ (by omega) (by omega) (by omega) (by omega)).mono ?_
                      rintro e w' ⟨rfl, hb⟩
                      rw [HX.out]
                      obtain ⟨x1, x2, x3⟩ := x
                      simp only [ratErr]
                      have hB0 : Below w.heap.size w w' := ((Below.refl _ _).alloc (Nat.le_refl _) _).trans (hb.mono (by simp))
                      have hz : w.heap.size < w'.heap.size := by have := hb.size; simp at this; omega
                      have hbl := (hb.block w.heap.size (by simp)).trans (heap_alloc_new w _)
                      have c0 := Lib.cell_of_heap hbl 0
                      have c1 := Lib.cell_of_heap hbl 1
                      have c2 := Lib.cell_of_heap hbl 2
                      have c3 := Lib.cell_of_heap hbl 3
                      have c4 := Lib.cell_of_heap hbl 4
                      have c5 := Lib.cell_of_heap hbl 5
                      simp only [List.getElem?_toArray, List.getElem?_cons_zero, List.getElem?_cons_succ] at c0 c1 c2 c3 c4 c5
                      have f0 := Lib.frozen_of_heap hbl 0
                      have f1 := Lib.frozen_of_heap hbl 1
                      have f2 := Lib.frozen_of_heap hbl 2
                      have f3 := Lib.frozen_of_heap hbl 3
                      have f4 := Lib.frozen_of_heap hbl 4
                      have f5 := Lib.frozen_of_heap hbl 5
                      clear hbl
                      rcases HR with ⟨H0, hx3⟩ | ⟨H0, hx3⟩
                      · simp only at hx3
                        have g3 : (x3 != 0) = true := by simpa using hx3
                        clear hx3
                        go_wp2_with fail
                        refine bodyPost_ret (v := .tuple #[.agg #[.int .i64 0, .string ⟨#[]⟩, .int .i64 0, .int .i64 0, .int .i64 0, .int .i64 0], .int .i64 0, .int .i64 x3]) (by simp [results, Tryz.results86, go_sem, c0, c1, c2, c3, c4, c5, hz]) rfl ⟨by rw [H0.out]; rfl, ?_⟩
                        refine Below.alloc ?_ (by simp; omega) _
                        exact (((((hB0.setCell (by simp) _).setCell (by simp) _).setCell (by simp) _).setCell (by simp) _).setCell (by simp) _).setCell (by simp) _
                      · simp only at hx3
                        subst hx3
                        go_wp2_with fail
                        refine bodyPost_ret (v := .tuple #[.agg #[.int .i64 2, .string ⟨#[]⟩, .int .i64 x1, .int .i64 x2, .int .i64 0, .int .i64 0], .int .i64 (Tk.numLen l), .int .i64 0]) (by simp [results, Tryz.results86, go_sem, c0, c1, c2, c3, c4, c5, hz]) rfl ⟨by rw [H0.out]; rfl, ?_⟩
                        refine Below.alloc ?_ (by simp; omega) _
                        exact (((((hB0.setCell (by simp) _).setCell (by simp) _).setCell (by simp) _).setCell (by simp) _).setCell (by simp) _).setCell (by simp) _
end Go.Proofs.YtpdbkbadjgellaaGreatDoor

namespace Go.Proofs.YtpdbkbadjgellaaGreatDoor
open Go.RowKit
attribute [local go_sem] ba_get ba_extract take_rest

theorem Lens.below {w w' : World} (h : Lens w) (hb : Below w.heap.size w w') : Lens w' := fun m h1 h2 => by
  have hc := h m h1 h2
  rw [hb.cell (World.block_lt_of_cell? w _ hc)]
  exact hc
theorem Lens.alloc {w : World} (h : Lens w) (o : Obj) : Lens (w.alloc o) := h.below ((Below.refl _ _).alloc (Nat.le_refl _) _)

def tokRes : Except Int (Tk.Tok × Nat) → Tk.Tok × Int × Int
  | .error e => ({}, 0, e)
  | .ok (t, n) => (t, n, 0)

/-- The date of a text's first ten bytes. -/
theorem parse_ten (l : List UInt8) (h : Tk.dateForm l = true) : parseOK (l.take 10) = (Tk.dayOf l).isSome ∧ parseR (l.take 10) = (Tk.dayOf l).getD 0 := by
  have h10 := ((dateForm_iff l).1 h).1
  have e1 : Tk.dateForm (l.take 10) = true := by
    rw [dateForm_iff]
    refine ⟨by simp; omega, fun i hi => ?_⟩
    have := ((dateForm_iff l).1 h).2 i hi
    unfold dateAt at this ⊢
    rw [getD_eq (l.take 10) i (by simp; omega), List.getElem_take, ← getD_eq l i (by omega)]
    exact this
  have e2 : Tk.dateY (l.take 10) = Tk.dateY l := by unfold Tk.dateY; rw [List.take_take]; rfl
  have e3 : Tk.dateM (l.take 10) = Tk.dateM l := by unfold Tk.dateM; rw [List.drop_take, List.take_take]; rfl
  have e4 : Tk.dateD (l.take 10) = Tk.dateD l := by unfold Tk.dateD; rw [List.drop_take, List.take_take]; rfl
  have e5 : parseOK (l.take 10) = Tk.dayOK (Tk.dateY l) (Tk.dateM l) (Tk.dateD l) := by
    unfold parseOK
    rw [e1, e2, e3, e4]
    simp; omega
  have e6 : (Tk.dayOf l).isSome = Tk.dayOK (Tk.dateY l) (Tk.dateM l) (Tk.dateD l) := by
    unfold Tk.dayOf
    cases Tk.dayOK (Tk.dateY l) (Tk.dateM l) (Tk.dateD l) <;> rfl
  refine ⟨e5.trans e6.symm, ?_⟩
  unfold parseR Tk.dayOf
  rw [e5, e2, e3, e4]
  cases Tk.dayOK (Tk.dateY l) (Tk.dateM l) (Tk.dateD l) <;> rfl

theorem wordLen_le (l : List UInt8) : Tk.wordLen l ≤ l.length := by
  cases l with
  | nil => simp [Tk.wordLen]
  | cons c r =>
    have := Tk.lead_le Tk.isWord r
    simp only [Tk.wordLen, List.length_cons]
    split <;> omega
theorem symLen_le (l : List UInt8) : Tk.symLen l ≤ l.length ∧ Tk.symLen l ≤ 2 := by
  cases l with
  | nil => simp [Tk.symLen]
  | cons c r =>
    simp only [Tk.symLen, List.length_cons]
    split
    · rename_i h
      cases r with
      | nil => simp [Tk.pair] at h
      | cons d r => simp
    · split <;> omega

theorem numRes_tok (l : List UInt8) (h1 : Tk.dateForm l = false) (h2 : Tk.isDig (l.headD 0) = true) : tokRes (Tk.readTok l) = numRes (Tk.readNum l) := by
  unfold Tk.readTok
  rw [h1, h2]
  simp only [Bool.false_eq_true, if_false, if_true]
  cases Tk.readNum l <;> rfl

set_option maxHeartbeats 2000000 in
set_option maxRecDepth 100000 in
theorem read_any (l : List UInt8) (w : World) (hs : l.length ≤ 20000) (h0 : 0 < l.length) (hl : Lens w) :
    Calls Tryz.prog 54 #[.string ⟨l.toArray⟩] w fun e w' => e = tokErr (tokRes (Tk.readTok l)) ∧ Below w.heap.size w w' := by
  have HL := Lib.hid (hl.alloc (.cells #[.int .i64 0, .string ⟨#[]⟩, .int .i64 0, .int .i64 0, .int .i64 0, .int .i64 0] 43))
  clear hl
  have hm : l.length ≤ maxLen := by unfold maxLen; omega
  have HM := Lib.hid hm
  clear hm
  have hh : l.headD 0 = l[0] := by cases l with | nil => simp at h0 | cons c r => rfl
  by_cases hd : Tk.dateForm l = true
  · have h10 : 10 ≤ l.length := ((dateForm_iff l).1 hd).1
    obtain ⟨p1, p2⟩ := parse_ten l hd
    have HR : Hid (tokRes (Tk.readTok l) = match Tk.dayOf l with | none => ({}, 0, 6) | some d => ({ kind := 3, day := d }, 10, 0)) := by
      show _ = _
      unfold Tk.readTok
      rw [if_pos hd]
      cases Tk.dayOf l <;> rfl
    have P1 := Lib.hid p1
    have P2 := Lib.hid p2
    have HD := Lib.hid hd
    clear p1 p2 hd hh
    go_enter Tryz.func54, Tryz.ntmps54
    go_wp2_with fail
    refine (isDate_any _ _ HM.out).mono ?_
    rintro e w' ⟨rfl, rfl⟩
    rw [HD.out]
    go_wp2_with fail
    refine (calParse_any _ _ HL.out (by unfold maxLen; simp; omega)).mono ?_
    rintro e w' ⟨rfl, rfl⟩
    rw [P1.out, P2.out]
    cases hx : Tk.dayOf l with
    | none =>
      have HR2 : Hid (tokRes (Tk.readTok l) = ({}, 0, 6)) := by show _ = _; rw [HR.out, hx]
      clear hx HR
      simp only [Option.isSome_none]
      go_wp2_with fail
      refine bodyPost_ret (v := .tuple #[.agg #[.int .i64 0, .string ⟨#[]⟩, .int .i64 0, .int .i64 0, .int .i64 0, .int .i64 0], .int .i64 0, .int .i64 6]) (by simp [results, Tryz.results54, go_sem]) rfl ⟨by rw [HR2.out]; rfl, ?_⟩
      exact (Below.refl _ _).alloc (Nat.le_refl _) _
    | some d =>
      have HR2 : Hid (tokRes (Tk.readTok l) = ({ kind := 3, day := d }, 10, 0)) := by show _ = _; rw [HR.out, hx]
      clear hx HR
      simp only [Option.isSome_some, Option.getD_some]
      go_wp2_with fail
      refine bodyPost_ret (v := .tuple #[.agg #[.int .i64 3, .string ⟨#[]⟩, .int .i64 0, .int .i64 0, .int .i64 d, .int .i64 0], .int .i64 10, .int .i64 0]) (by simp [results, Tryz.results54, go_sem]) rfl ⟨by rw [HR2.out]; rfl, ?_⟩
      exact (Below.refl _ _).alloc (Nat.le_refl _) _
  · have hd : Tk.dateForm l = false := by simpa using hd
    have HD := Lib.hid hd
    by_cases hg : Tk.isDig l[0] = true
    · have HR : Hid (tokRes (Tk.readTok l) = numRes (Tk.readNum l)) := numRes_tok l hd (by rw [hh]; exact hg)
      have HG := Lib.hid hg
      clear hd hh hg
      go_enter Tryz.func54, Tryz.ntmps54
      go_wp2_with fail
      refine (isDate_any _ _ HM.out).mono ?_
      rintro e w' ⟨rfl, rfl⟩
      rw [HD.out]
      go_wp2_with fail
      refine (isDigit_any _ _).mono ?_
      rintro e w' ⟨rfl, rfl⟩
      rw [HG.out]
      go_wp2_with fail
      refine (readNumber_any _ _ hs h0).mono ?_
      rintro e w' ⟨rfl, hb⟩
      rw [← HR.out]
      generalize hx : tokRes (Tk.readTok l) = x
      clear HR
      obtain ⟨⟨t1, t2, t3, t4, t5, t6⟩, x2, x3⟩ := x
      have HX := Lib.hid hx
      clear hx
      simp only [tokErr, tokV]
      have hB0 : Below w.heap.size w w' := ((Below.refl _ _).alloc (Nat.le_refl _) _).trans (hb.mono (by simp))
      have hz : w.heap.size < w'.heap.size := by have := hb.size; simp at this; omega
      have hbl := (hb.block w.heap.size (by simp)).trans (heap_alloc_new w _)
      have c0 := Lib.cell_of_heap hbl 0
      have c1 := Lib.cell_of_heap hbl 1
      have c2 := Lib.cell_of_heap hbl 2
      have c3 := Lib.cell_of_heap hbl 3
      have c4 := Lib.cell_of_heap hbl 4
      have c5 := Lib.cell_of_heap hbl 5
      simp only [List.getElem?_toArray, List.getElem?_cons_zero, List.getElem?_cons_succ] at c0 c1 c2 c3 c4 c5
      have f0 := Lib.frozen_of_heap hbl 0
      have f1 := Lib.frozen_of_heap hbl 1
      have f2 := Lib.frozen_of_heap hbl 2
      have f3 := Lib.frozen_of_heap hbl 3
      have f4 := Lib.frozen_of_heap hbl 4
      have f5 := Lib.frozen_of_heap hbl 5
      clear hbl
      go_wp2_with fail
      refine bodyPost_ret (v := .tuple #[.agg #[.int .i64 t1, .string ⟨t2.toArray⟩, .int .i64 t3, .int .i64 t4, .int .i64 t5, .int .i64 t6], .int .i64 x2, .int .i64 x3]) (by simp [results, Tryz.results54, go_sem, c0, c1, c2, c3, c4, c5]) rfl ⟨by rw [HX.out]; rfl, ?_⟩
      exact (((((hB0.setCell (by simp) _).setCell (by simp) _).setCell (by simp) _).setCell (by simp) _).setCell (by simp) _).setCell (by simp) _
    · have hg : Tk.isDig l[0] = false := by simpa using hg
      have HG := Lib.hid hg
      by_cases hw : Tk.isLow l[0] = true
      · have HW := Lib.hid hw
        have hwl := wordLen_le l
        have HR : Hid (tokRes (Tk.readTok l) = if (Tk.isKey (l.take (Tk.wordLen l)) || Tk.isName (l.take (Tk.wordLen l))) = true then ({ kind := 1, text := l.take (Tk.wordLen l) }, (Tk.wordLen l : Int), 0) else ({}, 0, 6)) := by
          show _ = _
          unfold Tk.readTok
          rw [hd, hh, hg, hw]
          simp only [Bool.false_eq_true, if_false, if_true]
          cases (Tk.isKey (l.take (Tk.wordLen l)) || Tk.isName (l.take (Tk.wordLen l))) <;> rfl
        clear hd hh hg hw
        have HK : Hid (∀ c, (Tk.isKey (l.take (Tk.wordLen l)) || Tk.isName (l.take (Tk.wordLen l))) = c → tokRes (Tk.readTok l) = if c = true then ({ kind := 1, text := l.take (Tk.wordLen l) }, (Tk.wordLen l : Int), 0) else ({}, 0, 6)) := by
          show ∀ c, _ → _
          intro c hc
          rw [HR.out, hc]
        clear HR
        go_enter Tryz.func54, Tryz.ntmps54
        go_wp2_with fail
        refine (isDate_any _ _ HM.out).mono ?_
        rintro e w' ⟨rfl, rfl⟩
        rw [HD.out]
        go_wp2_with fail
        refine (isDigit_any _ _).mono ?_
        rintro e w' ⟨rfl, rfl⟩
        rw [HG.out]
        go_wp2_with fail
        refine (isLower_any _ _).mono ?_
        rintro e w' ⟨rfl, rfl⟩
        rw [HW.out]
        go_wp2_with fail
        refine (wordLength_any _ _ HM.out).mono ?_
        rintro e w' ⟨rfl, rfl⟩
        go_wp2_with fail
        refine (isKeyword_any _ _).mono ?_
        rintro e w' ⟨rfl, rfl⟩
        cases hk : Tk.isKey (l.take (Tk.wordLen l))
        · have HK1 := Lib.hid hk
          clear hk
          go_wp2_with fail
          refine (isName_any _ _ (by unfold maxLen; simp; omega)).mono ?_
          rintro e w' ⟨rfl, rfl⟩
          cases hn : Tk.isName (l.take (Tk.wordLen l))
          · have HX : Hid (tokRes (Tk.readTok l) = ({}, 0, 6)) := HK.out false (by rw [HK1.out, hn]; rfl)
            clear hn
            go_wp2_with fail
            refine bodyPost_ret (v := .tuple #[.agg #[.int .i64 0, .string ⟨#[]⟩, .int .i64 0, .int .i64 0, .int .i64 0, .int .i64 0], .int .i64 0, .int .i64 6]) (by simp [results, Tryz.results54, go_sem]) rfl ⟨by rw [HX.out]; rfl, ?_⟩
            exact (Below.refl _ _).alloc (Nat.le_refl _) _
          · have HX : Hid (tokRes (Tk.readTok l) = ({ kind := 1, text := l.take (Tk.wordLen l) }, (Tk.wordLen l : Int), 0)) := HK.out true (by rw [HK1.out, hn]; rfl)
            clear hn
            go_wp2_with fail
            refine bodyPost_ret (v := .tuple #[.agg #[.int .i64 1, .string ⟨(l.take (Tk.wordLen l)).toArray⟩, .int .i64 0, .int .i64 0, .int .i64 0, .int .i64 0], .int .i64 (Tk.wordLen l), .int .i64 0]) (by simp [results, Tryz.results54, go_sem]) rfl ⟨by rw [HX.out]; rfl, ?_⟩
            exact (Below.refl _ _).alloc (Nat.le_refl _) _
        · have HX : Hid (tokRes (Tk.readTok l) = ({ kind := 1, text := l.take (Tk.wordLen l) }, (Tk.wordLen l : Int), 0)) := HK.out true (by rw [hk]; rfl)
          clear hk
          go_wp2_with fail
          refine bodyPost_ret (v := .tuple #[.agg #[.int .i64 1, .string ⟨(l.take (Tk.wordLen l)).toArray⟩, .int .i64 0, .int .i64 0, .int .i64 0, .int .i64 0], .int .i64 (Tk.wordLen l), .int .i64 0]) (by simp [results, Tryz.results54, go_sem]) rfl ⟨by rw [HX.out]; rfl, ?_⟩
          exact (Below.refl _ _).alloc (Nat.le_refl _) _
      · have hw : Tk.isLow l[0] = false := by simpa using hw
        have HW := Lib.hid hw
        obtain ⟨hsl, hs2⟩ := symLen_le l
        have HR : Hid (tokRes (Tk.readTok l) = if Tk.symLen l = 0 then ({}, 0, 6) else ({ kind := 4, text := l.take (Tk.symLen l) }, (Tk.symLen l : Int), 0)) := by
          show _ = _
          unfold Tk.readTok
          rw [hd, hh, hg, hw]
          simp only [Bool.false_eq_true, if_false]
          by_cases h : Tk.symLen l = 0
          · rw [if_pos h, if_pos h]; rfl
          · rw [if_neg h, if_neg h]; rfl
        clear hd hh hg hw
        by_cases hz : Tk.symLen l = 0
        · have HX : Hid (tokRes (Tk.readTok l) = ({}, 0, 6)) := by show _ = _; rw [HR.out, if_pos hz]
          have HZ := Lib.hid hz
          clear HR hz
          go_enter Tryz.func54, Tryz.ntmps54
          go_wp2_with fail
          refine (isDate_any _ _ HM.out).mono ?_
          rintro e w' ⟨rfl, rfl⟩
          rw [HD.out]
          go_wp2_with fail
          refine (isDigit_any _ _).mono ?_
          rintro e w' ⟨rfl, rfl⟩
          rw [HG.out]
          go_wp2_with fail
          refine (isLower_any _ _).mono ?_
          rintro e w' ⟨rfl, rfl⟩
          rw [HW.out]
          go_wp2_with fail
          refine (symbolLength_any _ _ HM.out).mono ?_
          rintro e w' ⟨rfl, rfl⟩
          rw [HZ.out]
          go_wp2_with fail
          refine bodyPost_ret (v := .tuple #[.agg #[.int .i64 0, .string ⟨#[]⟩, .int .i64 0, .int .i64 0, .int .i64 0, .int .i64 0], .int .i64 0, .int .i64 6]) (by simp [results, Tryz.results54, go_sem]) rfl ⟨by rw [HX.out]; rfl, ?_⟩
          exact (Below.refl _ _).alloc (Nat.le_refl _) _
        · have HX : Hid (tokRes (Tk.readTok l) = ({ kind := 4, text := l.take (Tk.symLen l) }, (Tk.symLen l : Int), 0)) := by show _ = _; rw [HR.out, if_neg hz]
          have gz : ((Tk.symLen l : Int) == 0) = false := by simpa using hz
          clear HR hz
          go_enter Tryz.func54, Tryz.ntmps54
          go_wp2_with fail
          refine (isDate_any _ _ HM.out).mono ?_
          rintro e w' ⟨rfl, rfl⟩
          rw [HD.out]
          go_wp2_with fail
          refine (isDigit_any _ _).mono ?_
          rintro e w' ⟨rfl, rfl⟩
          rw [HG.out]
          go_wp2_with fail
          refine (isLower_any _ _).mono ?_
          rintro e w' ⟨rfl, rfl⟩
          rw [HW.out]
          go_wp2_with fail
          refine (symbolLength_any _ _ HM.out).mono ?_
          rintro e w' ⟨rfl, rfl⟩
          go_wp2_with fail
          refine bodyPost_ret (v := .tuple #[.agg #[.int .i64 4, .string ⟨(l.take (Tk.symLen l)).toArray⟩, .int .i64 0, .int .i64 0, .int .i64 0, .int .i64 0], .int .i64 (Tk.symLen l), .int .i64 0]) (by simp [results, Tryz.results54, go_sem]) rfl ⟨by rw [HX.out]; rfl, ?_⟩
          exact (Below.refl _ _).alloc (Nat.le_refl _) _
end Go.Proofs.YtpdbkbadjgellaaGreatDoor

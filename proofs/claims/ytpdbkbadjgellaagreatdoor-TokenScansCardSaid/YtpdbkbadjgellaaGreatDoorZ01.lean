/-
  The walks of package calendar: leap, leaps, length, begin, number, Day, digits, Parse.
-/
import Derived.Test.YtpdbkbadjgellaaGreatDoorZ00
namespace Go.Proofs.YtpdbkbadjgellaaGreatDoor
open Go.RowKit
attribute [local go_sem] ba_get ba_extract take_rest

/-- The table of the months' lengths, as the world holds it. -/
def mtab (m : Nat) : Int := if m = 2 then 28 else if m = 4 ∨ m = 6 ∨ m = 9 ∨ m = 11 then 30 else 31
def Lens (w : World) : Prop := ∀ m : Nat, 1 ≤ m → m ≤ 12 → w.cell? ⟨0, m - 1, none⟩ = some (.int .i64 (mtab m))

theorem leap_any (y : Int) (w : World) (hy : 0 ≤ y) (hy2 : y ≤ 100000) :
    Calls Tryz.prog 128 #[.int .i64 y] w fun e w' => e = .returned (.bool (Tk.leapB y)) ∧ w = w' := by
  by_cases h1 : y % 4 = 0
  · by_cases h2 : y % 100 = 0
    · have HL : Hid (Tk.leapB y = ((y % 400) == 0)) := by show _ = _; unfold Tk.leapB; rw [Bool.eq_iff_iff]; simp; omega
      have g1 : (y % 4 == 0) = true := by simp; omega
      have g2 : (y % 100 != 0) = false := by simp; omega
      clear h1 h2
      go_enter Tryz.func128, Tryz.ntmps128
      go_wp2_with fail
      go_ret
      exact ⟨ret_bool HL.out.symm, rfl⟩
    · have HL : Hid (Tk.leapB y = true) := by show _ = _; unfold Tk.leapB; simp; omega
      have g1 : (y % 4 == 0) = true := by simp; omega
      have g2 : (y % 100 != 0) = true := by simp; omega
      clear h1 h2
      go_enter Tryz.func128, Tryz.ntmps128
      go_wp2_with fail
      go_ret
      exact ⟨ret_bool HL.out.symm, rfl⟩
  · have HL : Hid (Tk.leapB y = false) := by show _ = _; unfold Tk.leapB; simp; omega
    have g1 : (y % 4 == 0) = false := by simp; omega
    clear h1
    go_enter Tryz.func128, Tryz.ntmps128
    go_wp2_with fail
    go_ret
    exact ⟨ret_bool HL.out.symm, rfl⟩

theorem leaps_any (y : Int) (w : World) (hy : 0 ≤ y) (hy2 : y ≤ 100000) :
    Calls Tryz.prog 127 #[.int .i64 y] w fun e w' => e = .returned (.int .i64 (Tk.leapsN y)) ∧ w = w' := by
  go_enter Tryz.func127, Tryz.ntmps127
  go_wp2_with fail
  go_ret
  exact ⟨rfl, rfl⟩

theorem length_any (y : Int) (m : Nat) (w : World) (hy : 0 ≤ y) (hy2 : y ≤ 100000) (hm1 : 1 ≤ m) (hm2 : m ≤ 12) (hl : Lens w) :
    Calls Tryz.prog 107 #[.int .i64 y, .int .i64 m] w fun e w' => e = .returned (.int .i64 (Tk.mlen y m)) ∧ w = w' := by
  have hc := hl m hm1 hm2
  have HM : Hid ((m ≠ 2 ∨ Tk.leapB y = false) → Tk.mlen y m = mtab m) := by
    show _ → _
    intro h
    unfold Tk.mlen mtab
    by_cases h2 : m = 2
    · subst h2; simp; simpa using h
    · rw [if_neg (by omega), if_neg h2]; by_cases h4 : m = 4 ∨ m = 6 ∨ m = 9 ∨ m = 11
      · rw [if_pos (by omega), if_pos h4]
      · rw [if_neg (by omega), if_neg h4]
  have HM2 : Hid (m = 2 → Tk.leapB y = true → Tk.mlen y m = 29) := by
    show _ → _ → _
    intro h2 h
    subst h2; simp [Tk.mlen, h]
  clear hl
  by_cases h2 : m = 2
  · have g2 : ((m : Int) == 2) = true := by simp; omega
    have H2 := Lib.hid h2
    clear h2
    by_cases hlp : Tk.leapB y = true
    · have HN : Hid (Tk.mlen y m = 29) := HM2.out H2.out hlp
      go_enter Tryz.func107, Tryz.ntmps107
      go_wp2_with ((go_at_call 128; refine (leap_any _ _ hy hy2).mono ?_; rintro e w' ⟨rfl, rfl⟩))
      go_ret
      exact ⟨ret_int (by rw [HN.out]), rfl⟩
    · have hlp : Tk.leapB y = false := by simpa using hlp
      have HN : Hid (Tk.mlen y m = mtab m) := HM.out (.inr hlp)
      go_enter Tryz.func107, Tryz.ntmps107
      go_wp2_with ((go_at_call 128; refine (leap_any _ _ hy hy2).mono ?_; rintro e w' ⟨rfl, rfl⟩))
      go_ret
      exact ⟨ret_int (by rw [HN.out]), rfl⟩
  · have g2 : ((m : Int) == 2) = false := by simp; omega
    have HN : Hid (Tk.mlen y m = mtab m) := HM.out (.inl h2)
    clear h2
    go_enter Tryz.func107, Tryz.ntmps107
    go_wp2_with fail
    go_ret
    exact ⟨ret_int (by rw [HN.out]), rfl⟩

theorem length_int (y m : Int) (w : World) (hy : 0 ≤ y) (hy2 : y ≤ 100000) (hm1 : 1 ≤ m) (hm2 : m ≤ 12) (hl : Lens w) :
    Calls Tryz.prog 107 #[.int .i64 y, .int .i64 m] w fun e w' => e = .returned (.int .i64 (Tk.mlen y m)) ∧ w = w' := by
  obtain ⟨k, rfl⟩ := Int.eq_ofNat_of_zero_le (show 0 ≤ m by omega)
  exact length_any y k w hy hy2 (by omega) (by omega) hl

theorem begin_any (y : Int) (w : World) (hy : 1 ≤ y) (hy2 : y ≤ 100000) :
    Calls Tryz.prog 106 #[.int .i64 y] w fun e w' => e = .returned (.int .i64 (Tk.begn y)) ∧ w = w' := by
  have hb : 0 ≤ Tk.leapsN (y - 1) ∧ Tk.leapsN (y - 1) ≤ 100000 := by unfold Tk.leapsN; omega
  obtain ⟨b1, b2⟩ := hb
  have e9 : Hid (Tk.leapsN 1969 = 477) := by show _ = _; rfl
  go_enter Tryz.func106, Tryz.ntmps106
  go_wp2_with fail
  refine (leaps_any _ _ (by omega) (by omega)).mono ?_
  rintro e w' ⟨rfl, rfl⟩
  go_wp2_with fail
  refine (leaps_any _ _ (by omega) (by omega)).mono ?_
  rintro e w' ⟨rfl, rfl⟩
  rw [e9.out]
  go_wp2_with fail
  go_ret
  exact ⟨ret_int (by unfold Tk.begn; omega), rfl⟩

theorem mlen_bd (y m : Int) : 28 ≤ Tk.mlen y m ∧ Tk.mlen y m ≤ 31 := by unfold Tk.mlen; repeat' split <;> omega
theorem cumM_bd (y : Int) (k : Nat) : 0 ≤ Tk.cumM y k ∧ Tk.cumM y k ≤ 31 * k := by
  induction k with
  | zero => simp [Tk.cumM]
  | succ k ih => have := mlen_bd y (k + 1); simp only [Tk.cumM]; omega

set_option maxHeartbeats 1000000 in
theorem number_any (y : Int) (m : Nat) (d : Int) (w : World) (hy : 1970 ≤ y) (hy2 : y ≤ 2300) (hm1 : 1 ≤ m) (hm2 : m ≤ 13) (hd : 0 ≤ d) (hd2 : d ≤ 100) (hl : Lens w) :
    Calls Tryz.prog 129 #[.int .i64 y, .int .i64 m, .int .i64 d] w fun e w' => e = .returned (.int .i64 (Tk.dayNo y m d)) ∧ w = w' := by
  have HL := Lib.hid hl
  clear hl
  have hb : 0 ≤ Tk.begn y ∧ Tk.begn y ≤ 200000 := by unfold Tk.begn Tk.leapsN; omega
  obtain ⟨b1, b2⟩ := hb
  go_enter Tryz.func129, Tryz.ntmps129
  go_wp2_with fail
  refine (begin_any _ _ (by omega) (by omega)).mono ?_
  rintro e w' ⟨rfl, rfl⟩
  go_wp2_with fail
  go_loop [7, 8] (fun n i => ∃ k : Nat, k + 1 ≤ m ∧ i = .int .i64 ((k + 1 : Nat) : Int) ∧ n = .int .i64 (Tk.begn y + Tk.cumM y k)) (fun _ i => m - (intOf i).toNat)
  case atStart => exact ⟨0, by omega, rfl, by simp [Tk.cumM]⟩
  case round =>
    obtain ⟨k, hk, rfl, rfl⟩ := hrel
    have hc := cumM_bd y k
    obtain ⟨c1, c2⟩ := hc
    have hml := mlen_bd y (k + 1)
    obtain ⟨c3, c4⟩ := hml
    by_cases hlt : k + 1 < m
    · have HS : Hid (Tk.cumM y (k + 1) = Tk.cumM y k + Tk.mlen y (k + 1)) := rfl
      go_wp2_with ((go_at_call 107; refine (length_int _ _ _ (by omega) (by omega) (by omega) (by omega) HL.out).mono ?_; rintro e w' ⟨rfl, rfl⟩))
      go_round
      case rel => exact ⟨k + 1, by omega, by go_num, by rw [HS.out]; go_num⟩
      case measure => simp [intOf]; omega
    · have HK : Hid ((((m : Int) - 1)).toNat = k) := by show _ = _; omega
      go_wp2_with fail
      go_ret
      exact ⟨ret_int (by unfold Tk.dayNo; rw [HK.out]), rfl⟩

theorem number_int (y m d : Int) (w : World) (hy : 1970 ≤ y) (hy2 : y ≤ 2300) (hm1 : 1 ≤ m) (hm2 : m ≤ 13) (hd : 0 ≤ d) (hd2 : d ≤ 100) (hl : Lens w) :
    Calls Tryz.prog 129 #[.int .i64 y, .int .i64 m, .int .i64 d] w fun e w' => e = .returned (.int .i64 (Tk.dayNo y m d)) ∧ w = w' := by
  obtain ⟨k, rfl⟩ := Int.eq_ofNat_of_zero_le (show 0 ≤ m by omega)
  exact number_any y k d w hy hy2 (by omega) (by omega) hd hd2 hl

/-- A number and a bool, as a result. -/
theorem ret_ib {a b : Int} {x y : Bool} (h : a = b) (k : x = y) : Ending.returned (.tuple #[.int .i64 a, .bool x]) = .returned (.tuple #[.int .i64 b, .bool y]) := by rw [h, k]

def dayR (y m d : Int) : Int := if Tk.dayOK y m d = true then Tk.dayNo y m d else 0

set_option maxHeartbeats 1000000 in
theorem calDay_any (y m d : Int) (w : World) (hl : Lens w) (hd0 : d ≤ 1000) :
    Calls Tryz.prog 110 #[.int .i64 y, .int .i64 m, .int .i64 d] w fun e w' => e = .returned (.tuple #[.int .i64 (dayR y m d), .bool (Tk.dayOK y m d)]) ∧ w = w' := by
  have HL := Lib.hid hl
  clear hl
  by_cases h : 1970 ≤ y ∧ y ≤ 2199 ∧ 1 ≤ m ∧ m ≤ 12
  · obtain ⟨h1, h2, h3, h4⟩ := h
    have hml := mlen_bd y m
    obtain ⟨c3, c4⟩ := hml
    by_cases h5 : d < 1
    · have HF : Hid (Tk.dayOK y m d = false) := decide_eq_false (by omega)
      go_enter Tryz.func110, Tryz.ntmps110
      go_wp2_with fail
      go_ret2
      exact ⟨ret_ib (by simp [dayR, HF.out]) HF.out.symm, rfl⟩
    · by_cases h6 : Tk.mlen y m < d
      · have HF : Hid (Tk.dayOK y m d = false) := decide_eq_false (by omega)
        go_enter Tryz.func110, Tryz.ntmps110
        go_wp2_with ((go_at_call 107; refine (length_int _ _ _ (by omega) (by omega) (by omega) (by omega) HL.out).mono ?_; rintro e w' ⟨rfl, rfl⟩))
        go_ret2
        exact ⟨ret_ib (by simp [dayR, HF.out]) HF.out.symm, rfl⟩
      · have HF : Hid (Tk.dayOK y m d = true) := decide_eq_true (by omega)
        go_enter Tryz.func110, Tryz.ntmps110
        go_wp2_with ((first | (go_at_call 107; refine (length_int _ _ _ (by omega) (by omega) (by omega) (by omega) HL.out).mono ?_; rintro e w' ⟨rfl, rfl⟩) | (go_at_call 129; refine (number_int _ _ _ _ (by omega) (by omega) (by omega) (by omega) (by omega) (by omega) HL.out).mono ?_; rintro e w' ⟨rfl, rfl⟩)))
        go_ret2
        exact ⟨ret_ib (by simp [dayR, HF.out]) HF.out.symm, rfl⟩
  · have HF : Hid (Tk.dayOK y m d = false) := decide_eq_false (by omega)
    have h' : y < 1970 ∨ (1970 ≤ y ∧ 2199 < y) ∨ (1970 ≤ y ∧ y ≤ 2199 ∧ m < 1) ∨ (1970 ≤ y ∧ y ≤ 2199 ∧ 1 ≤ m ∧ 12 < m) := by omega
    clear h
    rcases h' with h | ⟨h, h1⟩ | ⟨h, h1, h2⟩ | ⟨h, h1, h2, h3⟩
    all_goals
      go_enter Tryz.func110, Tryz.ntmps110
      go_wp2_with fail
      go_ret2
      exact ⟨ret_ib (by simp [dayR, HF.out]) HF.out.symm, rfl⟩

/-- digits: the number of a list of digits, and whether it is one. -/
def digR (l : List UInt8) : Int := if l.all Tk.isDig = true then (Tk.val l : Int) else 0

theorem val_snoc (l : List UInt8) (c : UInt8) : Tk.val (l ++ [c]) = Tk.val l * 10 + (c.toNat - 48) := by simp [Tk.val]
theorem take_snoc' (l : List UInt8) (k : Nat) (h : k < l.length) : l.take (k + 1) = l.take k ++ [l[k]] := List.take_succ_eq_append_getElem h
theorem val_bd (l : List UInt8) (h : l.all Tk.isDig = true) : Tk.val l < 10 ^ l.length := by
  suffices ∀ (n : Nat) (m : Nat), n < 10 ^ m → l.foldl (fun n c => n * 10 + (c.toNat - 48)) n < 10 ^ (m + l.length) by simpa [Tk.val] using this 0 0 (by simp)
  induction l with
  | nil => intro n m h; simpa using h
  | cons c r ih =>
    intro n m hn
    rw [List.all_cons, Bool.and_eq_true] at h
    have hc := of_decide_eq_true h.1
    have := ih h.2 (n * 10 + (c.toNat - 48)) (m + 1) (by rw [Nat.pow_succ]; omega)
    simp only [List.foldl_cons, List.length_cons]
    rw [show m + (r.length + 1) = m + 1 + r.length by omega]
    exact this
theorem all_take (l : List UInt8) (k : Nat) (h : ∀ j (hj : j < l.length), j < k → Tk.isDig l[j] = true) : (l.take k).all Tk.isDig = true := by
  rw [List.all_eq_true]
  intro x hx
  obtain ⟨j, hj, rfl⟩ := List.getElem_of_mem hx
  rw [List.getElem_take]
  simp at hj
  exact h j (by omega) (by omega)

set_option maxHeartbeats 1000000 in
theorem calDigits_any (l : List UInt8) (w : World) (hs : l.length ≤ 4) :
    Calls Tryz.prog 109 #[.string ⟨l.toArray⟩] w fun e w' => e = .returned (.tuple #[.int .i64 (digR l), .bool (l.all Tk.isDig)]) ∧ w = w' := by
  go_enter Tryz.func109, Tryz.ntmps109
  go_wp2_with fail
  go_loop [4, 8] (fun n i => ∃ k : Nat, k ≤ l.length ∧ i = .int .i64 k ∧ n = .int .i64 (Tk.val (l.take k)) ∧ Hid (∀ j (hj : j < l.length), j < k → Tk.isDig l[j] = true)) (fun _ i => l.length - (intOf i).toNat)
  case atStart => exact ⟨0, by omega, rfl, rfl, fun _ _ h => by omega⟩
  case round =>
    obtain ⟨k, hk, rfl, rfl, HA⟩ := hrel
    have hb := val_bd _ (all_take l k HA.out)
    have hb2 : Tk.val (l.take k) < 10000 := by
      refine Nat.lt_of_lt_of_le hb ?_
      rw [List.length_take, Nat.min_eq_left hk]
      calc 10 ^ k ≤ 10 ^ 4 := Nat.pow_le_pow_right (by omega) (by omega)
        _ ≤ 10000 := by decide
    clear hb
    by_cases hlt : k < l.length
    · by_cases hd : Tk.isDig l[k] = true
      · have hd' := of_decide_eq_true hd
        obtain ⟨d1, d2⟩ := hd'
        have HS : Hid (Tk.val (l.take (k + 1)) = Tk.val (l.take k) * 10 + (l[k].toNat - 48)) := by show _ = _; rw [take_snoc' l k hlt, val_snoc]
        have HN : Hid (∀ j (hj : j < l.length), j < k + 1 → Tk.isDig l[j] = true) := fun j h hj => if e : j = k then by subst e; exact hd else HA.out j h (by omega)
        clear hd
        go_wp2_with fail
        go_round
        case rel => exact ⟨k + 1, by omega, by go_num, by rw [HS.out]; go_num, HN⟩
        case measure => simp [intOf]; omega
      · have HF : Hid (l.all Tk.isDig = false) := by
          show _ = _
          rw [Bool.eq_false_iff]
          intro h
          exact hd (List.all_eq_true.1 h _ (List.getElem_mem hlt))
        have hd' : l[k].toNat < 48 ∨ (48 ≤ l[k].toNat ∧ 57 < l[k].toNat) := by
          have hd : Tk.isDig l[k] = false := by simpa using hd
          have := of_decide_eq_false hd
          omega
        clear hd
        rcases hd' with h | ⟨h, h'⟩
        all_goals
          go_wp2_with fail
          go_ret2
          exact ⟨ret_ib (by unfold digR; rw [HF.out]; rfl) HF.out.symm, rfl⟩
    · have HT : Hid (l.take k = l) := List.take_of_length_le (by omega)
      have HF : Hid (l.all Tk.isDig = true) := by
        have := all_take l k HA.out
        rw [HT.out] at this
        exact this
      go_wp2_with fail
      go_ret2
      exact ⟨ret_ib (by unfold digR; rw [HF.out, HT.out]; rfl) HF.out.symm, rfl⟩

theorem ten (l : List UInt8) (h : l.length = 10) : ∃ c0 c1 c2 c3 c4 c5 c6 c7 c8 c9, l = [c0, c1, c2, c3, c4, c5, c6, c7, c8, c9] := by
  match l, h with
  | [c0, c1, c2, c3, c4, c5, c6, c7, c8, c9], _ => exact ⟨c0, c1, c2, c3, c4, c5, c6, c7, c8, c9, rfl⟩

/-- Parse: the day of a text. -/
def parseOK (l : List UInt8) : Bool := decide (l.length = 10) && Tk.dateForm l && Tk.dayOK (Tk.dateY l) (Tk.dateM l) (Tk.dateD l)
def parseR (l : List UInt8) : Int := if parseOK l = true then Tk.dayNo (Tk.dateY l) (Tk.dateM l) (Tk.dateD l) else 0

theorem form_ten (c0 c1 c2 c3 c4 c5 c6 c7 c8 c9 : UInt8) : Tk.dateForm [c0, c1, c2, c3, c4, c5, c6, c7, c8, c9] = ((decide (c4.toNat = 45) && decide (c7.toNat = 45)) && ([c0, c1, c2, c3].all Tk.isDig && [c5, c6].all Tk.isDig && [c8, c9].all Tk.isDig)) := by
  rw [Bool.eq_iff_iff]
  simp [Tk.dateForm, Tk.form]
  constructor
  · rintro ⟨h0, h1, h2, h3, h4, h5, h6, h7, h8, h9⟩; simp [*]
  · rintro ⟨⟨h4, h7⟩, ⟨⟨h0, h1, h2, h3⟩, h5, h6⟩, h8, h9⟩; simp [*]

theorem digR_le (l : List UInt8) : 0 ≤ digR l ∧ digR l ≤ 10 ^ l.length := by
  unfold digR
  split
  · rename_i h'
    have := val_bd l h'
    have e : ((10 ^ l.length : Nat) : Int) = 10 ^ l.length := by simp
    omega
  · exact ⟨Int.le_refl _, Int.pow_nonneg (by omega)⟩

set_option maxHeartbeats 2000000 in
theorem calParse_any (l : List UInt8) (w : World) (hl : Lens w) (hs : l.length ≤ maxLen) :
    Calls Tryz.prog 85 #[.string ⟨l.toArray⟩] w fun e w' => e = .returned (.tuple #[.int .i64 (parseR l), .bool (parseOK l)]) ∧ w = w' := by
  unfold maxLen at hs
  have HL := Lib.hid hl
  clear hl
  by_cases h10 : l.length = 10
  · obtain ⟨c0, c1, c2, c3, c4, c5, c6, c7, c8, c9, rfl⟩ := ten l h10
    clear h10 hs
    by_cases h4 : c4.toNat = 45
    · by_cases h7 : c7.toNat = 45
      · have g4 : ((c4.toNat : Int) != 45) = false := by simp; omega
        have g7 : ((c7.toNat : Int) != 45) = false := by simp; omega
        have HP : Hid (parseOK [c0, c1, c2, c3, c4, c5, c6, c7, c8, c9] = (([c0, c1, c2, c3].all Tk.isDig && [c5, c6].all Tk.isDig && [c8, c9].all Tk.isDig) && Tk.dayOK (Tk.val [c0, c1, c2, c3]) (Tk.val [c5, c6]) (Tk.val [c8, c9]))) := by
          show _ = _
          unfold parseOK
          rw [form_ten]
          simp only [h4, h7, decide_true, Bool.true_and]
          rfl
        have HV : Hid (parseR [c0, c1, c2, c3, c4, c5, c6, c7, c8, c9] = if parseOK [c0, c1, c2, c3, c4, c5, c6, c7, c8, c9] = true then Tk.dayNo (Tk.val [c0, c1, c2, c3]) (Tk.val [c5, c6]) (Tk.val [c8, c9]) else 0) := rfl
        clear h4 h7
        generalize hp : parseOK [c0, c1, c2, c3, c4, c5, c6, c7, c8, c9] = pk at *
        generalize hr : parseR [c0, c1, c2, c3, c4, c5, c6, c7, c8, c9] = pr at *
        clear hp hr
        cases hA1 : [c0, c1, c2, c3].all Tk.isDig
        · have H1 := Lib.hid hA1
          have HK : Hid (pk = false) := by show _ = _; rw [HP.out, hA1]; rfl
          clear hA1
          cases hA2 : [c5, c6].all Tk.isDig
          all_goals
            have H2 := Lib.hid hA2
            clear hA2
            cases hA3 : [c8, c9].all Tk.isDig
            all_goals
              have H3 := Lib.hid hA3
              clear hA3
              go_enter Tryz.func85, Tryz.ntmps85
              go_wp2_with fail
              refine (calDigits_any [c0, c1, c2, c3] _ (by simp)).mono ?_
              rintro e w' ⟨rfl, rfl⟩
              rw [H1.out]
              go_wp2_with fail
              refine (calDigits_any [c5, c6] _ (by simp)).mono ?_
              rintro e w' ⟨rfl, rfl⟩
              rw [H2.out]
              go_wp2_with fail
              refine (calDigits_any [c8, c9] _ (by simp)).mono ?_
              rintro e w' ⟨rfl, rfl⟩
              rw [H3.out]
              go_wp2_with fail
              go_ret2
              exact ⟨ret_ib (by rw [HV.out, HK.out]; rfl) HK.out.symm, rfl⟩
        · have H1 := Lib.hid hA1
          cases hA2 : [c5, c6].all Tk.isDig
          · have H2 := Lib.hid hA2
            have HK : Hid (pk = false) := by show _ = _; rw [HP.out, hA1, hA2]; rfl
            clear hA2 hA1
            cases hA3 : [c8, c9].all Tk.isDig
            all_goals
              have H3 := Lib.hid hA3
              clear hA3
              go_enter Tryz.func85, Tryz.ntmps85
              go_wp2_with fail
              refine (calDigits_any [c0, c1, c2, c3] _ (by simp)).mono ?_
              rintro e w' ⟨rfl, rfl⟩
              rw [H1.out]
              go_wp2_with fail
              refine (calDigits_any [c5, c6] _ (by simp)).mono ?_
              rintro e w' ⟨rfl, rfl⟩
              rw [H2.out]
              go_wp2_with fail
              refine (calDigits_any [c8, c9] _ (by simp)).mono ?_
              rintro e w' ⟨rfl, rfl⟩
              rw [H3.out]
              go_wp2_with fail
              go_ret2
              exact ⟨ret_ib (by rw [HV.out, HK.out]; rfl) HK.out.symm, rfl⟩
          · have H2 := Lib.hid hA2
            cases hA3 : [c8, c9].all Tk.isDig
            · have H3 := Lib.hid hA3
              have HK : Hid (pk = false) := by show _ = _; rw [HP.out, hA1, hA2, hA3]; rfl
              clear hA3 hA2 hA1
              go_enter Tryz.func85, Tryz.ntmps85
              go_wp2_with fail
              refine (calDigits_any [c0, c1, c2, c3] _ (by simp)).mono ?_
              rintro e w' ⟨rfl, rfl⟩
              rw [H1.out]
              go_wp2_with fail
              refine (calDigits_any [c5, c6] _ (by simp)).mono ?_
              rintro e w' ⟨rfl, rfl⟩
              rw [H2.out]
              go_wp2_with fail
              refine (calDigits_any [c8, c9] _ (by simp)).mono ?_
              rintro e w' ⟨rfl, rfl⟩
              rw [H3.out]
              go_wp2_with fail
              go_ret2
              exact ⟨ret_ib (by rw [HV.out, HK.out]; rfl) HK.out.symm, rfl⟩
            · have H3 := Lib.hid hA3
              have e1 : digR [c0, c1, c2, c3] = Tk.val [c0, c1, c2, c3] := by unfold digR; rw [hA1]; rfl
              have e2 : digR [c5, c6] = Tk.val [c5, c6] := by unfold digR; rw [hA2]; rfl
              have e3 : digR [c8, c9] = Tk.val [c8, c9] := by unfold digR; rw [hA3]; rfl
              have HK : Hid (pk = Tk.dayOK (digR [c0, c1, c2, c3]) (digR [c5, c6]) (digR [c8, c9])) := by show _ = _; rw [HP.out, hA1, hA2, hA3, e1, e2, e3]; rfl
              have HW : Hid (pr = dayR (digR [c0, c1, c2, c3]) (digR [c5, c6]) (digR [c8, c9])) := by
                show _ = _
                unfold dayR
                rw [HV.out, HK.out, e1, e2, e3]
              have hb3 := (digR_le [c8, c9]).2
              have hb : digR [c8, c9] ≤ 1000 := by simp at hb3; omega
              clear hb3 e1 e2 e3 hA3 hA2 hA1
              go_enter Tryz.func85, Tryz.ntmps85
              go_wp2_with fail
              refine (calDigits_any [c0, c1, c2, c3] _ (by simp)).mono ?_
              rintro e w' ⟨rfl, rfl⟩
              rw [H1.out]
              go_wp2_with fail
              refine (calDigits_any [c5, c6] _ (by simp)).mono ?_
              rintro e w' ⟨rfl, rfl⟩
              rw [H2.out]
              go_wp2_with fail
              refine (calDigits_any [c8, c9] _ (by simp)).mono ?_
              rintro e w' ⟨rfl, rfl⟩
              rw [H3.out]
              go_wp2_with fail
              refine (calDay_any _ _ _ _ HL.out hb).mono ?_
              rintro e w' ⟨rfl, rfl⟩
              rw [← HK.out, ← HW.out]
              go_wp2_with fail
              go_ret2
              exact ⟨rfl, rfl⟩
      · have g4 : ((c4.toNat : Int) != 45) = false := by simp; omega
        have g7 : ((c7.toNat : Int) != 45) = true := by simp; omega
        have HP : Hid (parseOK [c0, c1, c2, c3, c4, c5, c6, c7, c8, c9] = false) := by
          show _ = _
          unfold parseOK
          rw [form_ten]
          simp [h7]
        clear h4 h7
        go_enter Tryz.func85, Tryz.ntmps85
        go_wp2_with fail
        go_ret2
        exact ⟨ret_ib (by unfold parseR; rw [HP.out]; rfl) HP.out.symm, rfl⟩
    · have g4 : ((c4.toNat : Int) != 45) = true := by simp; omega
      have HP : Hid (parseOK [c0, c1, c2, c3, c4, c5, c6, c7, c8, c9] = false) := by
        show _ = _
        unfold parseOK
        rw [form_ten]
        simp [h4]
      clear h4
      go_enter Tryz.func85, Tryz.ntmps85
      go_wp2_with fail
      go_ret2
      exact ⟨ret_ib (by unfold parseR; rw [HP.out]; rfl) HP.out.symm, rfl⟩
  · have g : ((l.length : Int) != 10) = true := by simp; omega
    have HP : Hid (parseOK l = false) := by
      show _ = _
      unfold parseOK
      simp [h10]
    clear h10
    go_enter Tryz.func85, Tryz.ntmps85
    go_wp2_with fail
    go_ret2
    exact ⟨ret_ib (by unfold parseR; rw [HP.out]; rfl) HP.out.symm, rfl⟩
end Go.Proofs.YtpdbkbadjgellaaGreatDoor

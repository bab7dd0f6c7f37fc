/-
  The walks of package calendar: leap, leaps, length, begin, number, Day, digits, Parse.
  Plain laws on the numbers in texts. No program in sight.
  Plain laws on dates. No program in sight.
-/
import Derived.Test.YtpdbkbadjgellaaGreatDoorZ00
import Derived.Lib.ItoaNum
namespace Go.Proofs.YtpdbkbadjgellaaGreatDoor
open Go.RowKit
attribute [local go_sem] ba_get ba_extract take_rest

/-- The table of the months' lengths, as the world holds it. -/
def mtab (m : Nat) : Int := if m = 2 then 28 else if m = 4 ∨ m = 6 ∨ m = 9 ∨ m = 11 then 30 else 31
def Lens (w : World) : Prop := ∀ m : Nat, 1 ≤ m → m ≤ 12 → w.cell? ⟨0, m - 1, none⟩ = some (.int .i64 (mtab m))

theorem leap_any (y : Int) (w : World) (hy : 0 ≤ y) (hy2 : y ≤ 100000) :
    Calls Tryz.prog 128 #[.int .i64 y] w fun e w' => e = .returned (.bool (Tk.leapB y)) ∧ w = w' := by
  by_cases h1 : y % 4 = 0
  · by_cases h2 : y % 100 = 0
    · have HL : Hid (Tk.leapB y = ((y % 400) == 0)) := by show _ = _; unfold Tk.leapB; rw [Bool.eq_iff_iff]; simp; omega
      have g1 : (y % 4 == 0) = true := by simp; omega
      have g2 : (y % 100 != 0) = false := by simp; omega
      clear h1 h2
      go_enter Tryz.func128, Tryz.ntmps128
      go_wp2_with fail
      go_ret
      exact ⟨ret_bool HL.out.symm, rfl⟩
    · have HL : Hid (Tk.leapB y = true) := by show _ = _; unfold Tk.leapB; simp; omega
      have g1 : (y % 4 == 0) = true := by simp; omega
      have g2 : (y % 100 != 0) = true := by simp; omega
      clear h1 h2
      go_enter Tryz.func128, Tryz.ntmps128
      go_wp2_with fail
      go_ret
      exact ⟨ret_bool HL.out.symm, rfl⟩
  · have HL : Hid (Tk.leapB y = false) := by show _ = _; unfold Tk.leapB; simp; omega
    have g1 : (y % 4 == 0) = false := by simp; omega
    clear h1
    go_enter Tryz.func128, Tryz.ntmps128
    go_wp2_with fail
    go_ret
    exact ⟨ret_bool HL.out.symm, rfl⟩

theorem leaps_any (y : Int) (w : World) (hy : 0 ≤ y) (hy2 : y ≤ 100000) :
    Calls Tryz.prog 127 #[.int .i64 y] w fun e w' => e = .returned (.int .i64 (Tk.leapsN y)) ∧ w = w' := by
  go_enter Tryz.func127, Tryz.ntmps127
  go_wp2_with fail
  go_ret
  exact ⟨rfl, rfl⟩

theorem length_any (y : Int) (m : Nat) (w : World) (hy : 0 ≤ y) (hy2 : y ≤ 100000) (hm1 : 1 ≤ m) (hm2 : m ≤ 12) (hl : Lens w) :
    Calls Tryz.prog 107 #[.int .i64 y, .int .i64 m] w fun e w' => e = .returned (.int .i64 (Tk.mlen y m)) ∧ w = w' := by
  have hc := hl m hm1 hm2
  have HM : Hid ((m ≠ 2 ∨ Tk.leapB y = false) → Tk.mlen y m = mtab m) := by
    show _ → _
    intro h
    unfold Tk.mlen mtab
    by_cases h2 : m = 2
    · subst h2; simp; simpa using h
    · rw [if_neg (by omega), if_neg h2]; by_cases h4 : m = 4 ∨ m = 6 ∨ m = 9 ∨ m = 11
      · rw [if_pos (by omega), if_pos h4]
      · rw [if_neg (by omega), if_neg h4]
  have HM2 : Hid (m = 2 → Tk.leapB y = true → Tk.mlen y m = 29) := by
    show _ → _ → _
    intro h2 h
    subst h2; simp [Tk.mlen, h]
  clear hl
  by_cases h2 : m = 2
  · have g2 : ((m : Int) == 2) = true := by simp; omega
    have H2 := Lib.hid h2
    clear h2
    by_cases hlp : Tk.leapB y = true
    · have HN : Hid (Tk.mlen y m = 29) := HM2.out H2.out hlp
      go_enter Tryz.func107, Tryz.ntmps107
      go_wp2_with ((go_at_call 128; refine (leap_any _ _ hy hy2).mono ?_; rintro e w' ⟨rfl, rfl⟩))
      go_ret
      exact ⟨ret_int (by rw [HN.out]), rfl⟩
    · have hlp : Tk.leapB y = false := by simpa using hlp
      have HN : Hid (Tk.mlen y m = mtab m) := HM.out (.inr hlp)
      go_enter Tryz.func107, Tryz.ntmps107
      go_wp2_with ((go_at_call 128; refine (leap_any _ _ hy hy2).mono ?_; rintro e w' ⟨rfl, rfl⟩))
      go_ret
      exact ⟨ret_int (by rw [HN.out]), rfl⟩
  · have g2 : ((m : Int) == 2) = false := by simp; omega
    have HN : Hid (Tk.mlen y m = mtab m) := HM.out (.inl h2)
    clear h2
    go_enter Tryz.func107, Tryz.ntmps107
    go_wp2_with fail
    go_ret
    exact ⟨ret_int (by rw [HN.out]), rfl⟩

theorem length_int (y m : Int) (w : World) (hy : 0 ≤ y) (hy2 : y ≤ 100000) (hm1 : 1 ≤ m) (hm2 : m ≤ 12) (hl : Lens w) :
    Calls Tryz.prog 107 #[.int .i64 y, .int .i64 m] w fun e w' => e = .returned (.int .i64 (Tk.mlen y m)) ∧ w = w' := by
  obtain ⟨k, rfl⟩ := Int.eq_ofNat_of_zero_le (show 0 ≤ m by omega)
  exact length_any y k w hy hy2 (by omega) (by omega) hl

theorem begin_any (y : Int) (w : World) (hy : 1 ≤ y) (hy2 : y ≤ 100000) :
    Calls Tryz.prog 106 #[.int .i64 y] w fun e w' => e = .returned (.int .i64 (Tk.begn y)) ∧ w = w' := by
  have hb : 0 ≤ Tk.leapsN (y - 1) ∧ Tk.leapsN (y - 1) ≤ 100000 := by unfold Tk.leapsN; omega
  obtain ⟨b1, b2⟩ := hb
  have e9 : Hid (Tk.leapsN 1969 = 477) := by show _ = _; rfl
  go_enter Tryz.func106, Tryz.ntmps106
  go_wp2_with fail
  refine (leaps_any _ _ (by omega) (by omega)).mono ?_
  rintro e w' ⟨rfl, rfl⟩
  go_wp2_with fail
  refine (leaps_any _ _ (by omega) (by omega)).mono ?_
  rintro e w' ⟨rfl, rfl⟩
  rw [e9.out]
  go_wp2_with fail
  go_ret
  exact ⟨ret_int (by unfold Tk.begn; omega), rfl⟩

theorem mlen_bd (y m : Int) : 28 ≤ Tk.mlen y m ∧ Tk.mlen y m ≤ 31 := by unfold Tk.mlen; repeat' split <;> omega
theorem cumM_bd (y : Int) (k : Nat) : 0 ≤ Tk.cumM y k ∧ Tk.cumM y k ≤ 31 * k := by
  induction k with
  | zero => simp [Tk.cumM]
  | succ k ih => have := mlen_bd y (k + 1); simp only [Tk.cumM]; omega

set_option maxHeartbeats 1000000 in
theorem number_any (y : Int) (m : Nat) (d : Int) (w : World) (hy : 1970 ≤ y) (hy2 : y ≤ 2300) (hm1 : 1 ≤ m) (hm2 : m ≤ 13) (hd : 0 ≤ d) (hd2 : d ≤ 100) (hl : Lens w) :
    Calls Tryz.prog 129 #[.int .i64 y, .int .i64 m, .int .i64 d] w fun e w' => e = .returned (.int .i64 (Tk.dayNo y m d)) ∧ w = w' := by
  have HL := Lib.hid hl
  clear hl
  have hb : 0 ≤ Tk.begn y ∧ Tk.begn y ≤ 200000 := by unfold Tk.begn Tk.leapsN; omega
  obtain ⟨b1, b2⟩ := hb
  go_enter Tryz.func129, Tryz.ntmps129
  go_wp2_with fail
  refine (begin_any _ _ (by omega) (by omega)).mono ?_
  rintro e w' ⟨rfl, rfl⟩
  go_wp2_with fail
  go_loop [7, 8] (fun n i => ∃ k : Nat, k + 1 ≤ m ∧ i = .int .i64 ((k + 1 : Nat) : Int) ∧ n = .int .i64 (Tk.begn y + Tk.cumM y k)) (fun _ i => m - (intOf i).toNat)
  case atStart => exact ⟨0, by omega, rfl, by simp [Tk.cumM]⟩
  case round =>
    obtain ⟨k, hk, rfl, rfl⟩ := hrel
    have hc := cumM_bd y k
    obtain ⟨c1, c2⟩ := hc
    have hml := mlen_bd y (k + 1)
    obtain ⟨c3, c4⟩ := hml
    by_cases hlt : k + 1 < m
    · have HS : Hid (Tk.cumM y (k + 1) = Tk.cumM y k + Tk.mlen y (k + 1)) := rfl
      go_wp2_with ((go_at_call 107; refine (length_int _ _ _ (by omega) (by omega) (by omega) (by omega) HL.out).mono ?_; rintro e w' ⟨rfl, rfl⟩))
      go_round
      case rel => exact ⟨k + 1, by omega, by go_num, by rw [HS.out]; go_num⟩
      case measure => simp [intOf]; omega
    · have HK : Hid ((((m : Int) - 1)).toNat = k) := by show _ = _; omega
      go_wp2_with fail
      go_ret
      exact ⟨ret_int (by unfold Tk.dayNo; rw [HK.out]), rfl⟩

theorem number_int (y m d : Int) (w : World) (hy : 1970 ≤ y) (hy2 : y ≤ 2300) (hm1 : 1 ≤ m) (hm2 : m ≤ 13) (hd : 0 ≤ d) (hd2 : d ≤ 100) (hl : Lens w) :
    Calls Tryz.prog 129 #[.int .i64 y, .int .i64 m, .int .i64 d] w fun e w' => e = .returned (.int .i64 (Tk.dayNo y m d)) ∧ w = w' := by
  obtain ⟨k, rfl⟩ := Int.eq_ofNat_of_zero_le (show 0 ≤ m by omega)
  exact number_any y k d w hy hy2 (by omega) (by omega) hd hd2 hl

/-- A number and a bool, as a result. -/
theorem ret_ib {a b : Int} {x y : Bool} (h : a = b) (k : x = y) : Ending.returned (.tuple #[.int .i64 a, .bool x]) = .returned (.tuple #[.int .i64 b, .bool y]) := by rw [h, k]

def dayR (y m d : Int) : Int := if Tk.dayOK y m d = true then Tk.dayNo y m d else 0

set_option maxHeartbeats 1000000 in
theorem calDay_any (y m d : Int) (w : World) (hl : Lens w) (hd0 : d ≤ 1000) :
    Calls Tryz.prog 110 #[.int .i64 y, .int .i64 m, .int .i64 d] w fun e w' => e = .returned (.tuple #[.int .i64 (dayR y m d), .bool (Tk.dayOK y m d)]) ∧ w = w' := by
  have HL := Lib.hid hl
  clear hl
  by_cases h : 1970 ≤ y ∧ y ≤ 2199 ∧ 1 ≤ m ∧ m ≤ 12
  · obtain ⟨h1, h2, h3, h4⟩ := h
    have hml := mlen_bd y m
    obtain ⟨c3, c4⟩ := hml
    by_cases h5 : d < 1
    · have HF : Hid (Tk.dayOK y m d = false) := decide_eq_false (by omega)
      go_enter Tryz.func110, Tryz.ntmps110
      go_wp2_with fail
      go_ret2
      exact ⟨ret_ib (by simp [dayR, HF.out]) HF.out.symm, rfl⟩
    · by_cases h6 : Tk.mlen y m < d
      · have HF : Hid (Tk.dayOK y m d = false) := decide_eq_false (by omega)
        go_enter Tryz.func110, Tryz.ntmps110
        go_wp2_with ((go_at_call 107; refine (length_int _ _ _ (by omega) (by omega) (by omega) (by omega) HL.out).mono ?_; rintro e w' ⟨rfl, rfl⟩))
        go_ret2
        exact ⟨ret_ib (by simp [dayR, HF.out]) HF.out.symm, rfl⟩
      · have HF : Hid (Tk.dayOK y m d = true) := decide_eq_true (by omega)
        go_enter Tryz.func110, Tryz.ntmps110
        go_wp2_with ((first | (go_at_call 107; refine (length_int _ _ _ (by omega) (by omega) (by omega) (by omega) HL.out).mono ?_; rintro e w' ⟨rfl, rfl⟩) | (go_at_call 129; refine (number_int _ _ _ _ (by omega) (by omega) (by omega) (by omega) (by omega) (by omega) HL.out).mono ?_; rintro e w' ⟨rfl, rfl⟩)))
        go_ret2
        exact ⟨ret_ib (by simp [dayR, HF.out]) HF.out.symm, rfl⟩
  · have HF : Hid (Tk.dayOK y m d = false) := decide_eq_false (by omega)
    have h' : y < 1970 ∨ (1970 ≤ y ∧ 2199 < y) ∨ (1970 ≤ y ∧ y ≤ 2199 ∧ m < 1) ∨ (1970 ≤ y ∧ y ≤ 2199 ∧ 1 ≤ m ∧ 12 < m) := by omega
    clear h
    rcases h' with h | ⟨h, h1⟩ | ⟨h, h1, h2⟩ | ⟨h, h1, h2, h3⟩
    all_goals
      go_enter Tryz.func110, Tryz.ntmps110
      go_wp2_with fail
      go_ret2
      exact ⟨ret_ib (by simp [dayR, HF.out]) HF.out.symm, rfl⟩

/-- digits: the number of a list of digits, and whether it is one. -/
def digR (l : List UInt8) : Int := if l.all Tk.isDig = true then (Tk.val l : Int) else 0

theorem val_snoc (l : List UInt8) (c : UInt8) : Tk.val (l ++ [c]) = Tk.val l * 10 + (c.toNat - 48) := by simp [Tk.val]
theorem take_snoc' (l : List UInt8) (k : Nat) (h : k < l.length) : l.take (k + 1) = l.take k ++ [l[k]] := List.take_succ_eq_append_getElem h
theorem val_bd (l : List UInt8) (h : l.all Tk.isDig = true) : Tk.val l < 10 ^ l.length := by
  suffices ∀ (n : Nat) (m : Nat), n < 10 ^ m → l.foldl (fun n c => n * 10 + (c.toNat - 48)) n < 10 ^ (m + l.length) by simpa [Tk.val] using this 0 0 (by simp)
  induction l with
  | nil => intro n m h; simpa using h
  | cons c r ih =>
    intro n m hn
    rw [List.all_cons, Bool.and_eq_true] at h
    have hc := of_decide_eq_true h.1
    have := ih h.2 (n * 10 + (c.toNat - 48)) (m + 1) (by rw [Nat.pow_succ]; omega)
    simp only [List.foldl_cons, List.length_cons]
    rw [show m + (r.length + 1) = m + 1 + r.length by omega]
    exact this
theorem all_take (l : List UInt8) (k : Nat) (h : ∀ j (hj : j < l.length), j < k → Tk.isDig l[j] = true) : (l.take k).all Tk.isDig = true := by
  rw [List.all_eq_true]
  intro x hx
  obtain ⟨j, hj, rfl⟩ := List.getElem_of_mem hx
  rw [List.getElem_take]
  simp at hj
  exact h j (by omega) (by omega)

set_option maxHeartbeats 1000000 in
theorem calDigits_any (l : List UInt8) (w : World) (hs : l.length ≤ 4) :
    Calls Tryz.prog 109 #[.string ⟨l.toArray⟩] w fun e w' => e = .returned (.tuple #[.int .i64 (digR l), .bool (l.all Tk.isDig)]) ∧ w = w' := by
  go_enter Tryz.func109, Tryz.ntmps109
  go_wp2_with fail
  go_loop [4, 8] (fun n i => ∃ k : Nat, k ≤ l.length ∧ i = .int .i64 k ∧ n = .int .i64 (Tk.val (l.take k)) ∧ Hid (∀ j (hj : j < l.length), j < k → Tk.isDig l[j] = true)) (fun _ i => l.length - (intOf i).toNat)
  case atStart => exact ⟨0, by omega, rfl, rfl, fun _ _ h => by omega⟩
  case round =>
    obtain ⟨k, hk, rfl, rfl, HA⟩ := hrel
    have hb := val_bd _ (all_take l k HA.out)
    have hb2 : Tk.val (l.take k) < 10000 := by
      refine Nat.lt_of_lt_of_le hb ?_
      rw [List.length_take, Nat.min_eq_left hk]
      calc 10 ^ k ≤ 10 ^ 4 := Nat.pow_le_pow_right (by omega) (by omega)
        _ ≤ 10000 := by decide
    clear hb
    by_cases hlt : k < l.length
    · by_cases hd : Tk.isDig l[k] = true
      · have hd' := of_decide_eq_true hd
        obtain ⟨d1, d2⟩ := hd'
        have HS : Hid (Tk.val (l.take (k + 1)) = Tk.val (l.take k) * 10 + (l[k].toNat - 48)) := by show _ = _; rw [take_snoc' l k hlt, val_snoc]
        have HN : Hid (∀ j (hj : j < l.length), j < k + 1 → Tk.isDig l[j] = true) := fun j h hj => if e : j = k then by subst e; exact hd else HA.out j h (by omega)
        clear hd
        go_wp2_with fail
        go_round
        case rel => exact ⟨k + 1, by omega, by go_num, by rw [HS.out]; go_num, HN⟩
        case measure => simp [intOf]; omega
      · have HF : Hid (l.all Tk.isDig = false) := by
          show _ = _
          rw [Bool.eq_false_iff]
          intro h
          exact hd (List.all_eq_true.1 h _ (List.getElem_mem hlt))
        have hd' : l[k].toNat < 48 ∨ (48 ≤ l[k].toNat ∧ 57 < l[k].toNat) := by
          have hd : Tk.isDig l[k] = false := by simpa using hd
          have := of_decide_eq_false hd
          omega
        clear hd
        rcases hd' with h | ⟨h, h'⟩
        all_goals
          go_wp2_with fail
          go_ret2
          exact ⟨ret_ib (by unfold digR; rw [HF.out]; rfl) HF.out.symm, rfl⟩
    · have HT : Hid (l.take k = l) := List.take_of_length_le (by omega)
      have HF : Hid (l.all Tk.isDig = true) := by
        have := all_take l k HA.out
        rw [HT.out] at this
        exact this
      go_wp2_with fail
      go_ret2
      exact ⟨ret_ib (by unfold digR; rw [HF.out, HT.out]; rfl) HF.out.symm, rfl⟩

theorem ten (l : List UInt8) (h : l.length = 10) : ∃ c0 c1 c2 c3 c4 c5 c6 c7 c8 c9, l = [c0, c1, c2, c3, c4, c5, c6, c7, c8, c9] := by
  match l, h with
  | [c0, c1, c2, c3, c4, c5, c6, c7, c8, c9], _ => exact ⟨c0, c1, c2, c3, c4, c5, c6, c7, c8, c9, rfl⟩

/-- Parse: the day of a text. -/
def parseOK (l : List UInt8) : Bool := decide (l.length = 10) && Tk.dateForm l && Tk.dayOK (Tk.dateY l) (Tk.dateM l) (Tk.dateD l)
def parseR (l : List UInt8) : Int := if parseOK l = true then Tk.dayNo (Tk.dateY l) (Tk.dateM l) (Tk.dateD l) else 0

theorem form_ten (c0 c1 c2 c3 c4 c5 c6 c7 c8 c9 : UInt8) : Tk.dateForm [c0, c1, c2, c3, c4, c5, c6, c7, c8, c9] = ((decide (c4.toNat = 45) && decide (c7.toNat = 45)) && ([c0, c1, c2, c3].all Tk.isDig && [c5, c6].all Tk.isDig && [c8, c9].all Tk.isDig)) := by
  rw [Bool.eq_iff_iff]
  simp [Tk.dateForm, Tk.form]
  constructor
  · rintro ⟨h0, h1, h2, h3, h4, h5, h6, h7, h8, h9⟩; simp [*]
  · rintro ⟨⟨h4, h7⟩, ⟨⟨h0, h1, h2, h3⟩, h5, h6⟩, h8, h9⟩; simp [*]

theorem digR_le (l : List UInt8) : 0 ≤ digR l ∧ digR l ≤ 10 ^ l.length := by
  unfold digR
  split
  · rename_i h'
    have := val_bd l h'
    have e : ((10 ^ l.length : Nat) : Int) = 10 ^ l.length := by simp
    omega
  · exact ⟨Int.le_refl _, Int.pow_nonneg (by omega)⟩

set_option maxHeartbeats 2000000 in
theorem calParse_any (l : List UInt8) (w : World) (hl : Lens w) (hs : l.length ≤ maxLen) :
    Calls Tryz.prog 85 #[.string ⟨l.toArray⟩] w fun e w' => e = .returned (.tuple #[.int .i64 (parseR l), .bool (parseOK l)]) ∧ w = w' := by
  unfold maxLen at hs
  have HL := Lib.hid hl
  clear hl
  by_cases h10 : l.length = 10
  · obtain ⟨c0, c1, c2, c3, c4, c5, c6, c7, c8, c9, rfl⟩ := ten l h10
    clear h10 hs
    by_cases h4 : c4.toNat = 45
    · by_cases h7 : c7.toNat = 45
      · have g4 : ((c4.toNat : Int) != 45) = false := by simp; omega
        have g7 : ((c7.toNat : Int) != 45) = false := by simp; omega
        have HP : Hid (parseOK [c0, c1, c2, c3, c4, c5, c6, c7, c8, c9] = (([c0, c1, c2, c3].all Tk.isDig && [c5, c6].all Tk.isDig && [c8, c9].all Tk.isDig) && Tk.dayOK (Tk.val [c0, c1, c2, c3]) (Tk.val [c5, c6]) (Tk.val [c8, c9]))) := by
          show _ = _
          unfold parseOK
          rw [form_ten]
          simp only [h4, h7, decide_true, Bool.true_and]
          rfl
        have HV : Hid (parseR [c0, c1, c2, c3, c4, c5, c6, c7, c8, c9] = if parseOK [c0, c1, c2, c3, c4, c5, c6, c7, c8, c9] = true then Tk.dayNo (Tk.val [c0, c1, c2, c3]) (Tk.val [c5, c6]) (Tk.val [c8, c9]) else 0) := rfl
        clear h4 h7
        generalize hp : parseOK [c0, c1, c2, c3, c4, c5, c6, c7, c8, c9] = pk at *
        generalize hr : parseR [c0, c1, c2, c3, c4, c5, c6, c7, c8, c9] = pr at *
        clear hp hr
        cases hA1 : [c0, c1, c2, c3].all Tk.isDig
        · have H1 := Lib.hid hA1
          have HK : Hid (pk = false) := by show _ = _; rw [HP.out, hA1]; rfl
          clear hA1
          cases hA2 : [c5, c6].all Tk.isDig
          all_goals
            have H2 := Lib.hid hA2
            clear hA2
            cases hA3 : [c8, c9].all Tk.isDig
            all_goals
              have H3 := Lib.hid hA3
              clear hA3
              go_enter Tryz.func85, Tryz.ntmps85
              go_wp2_with fail
              refine (calDigits_any [c0, c1, c2, c3] _ (by simp)).mono ?_
              rintro e w' ⟨rfl, rfl⟩
              rw [H1.out]
              go_wp2_with fail
              refine (calDigits_any [c5, c6] _ (by simp)).mono ?_
              rintro e w' ⟨rfl, rfl⟩
              rw [H2.out]
              go_wp2_with fail
              refine (calDigits_any [c8, c9] _ (by simp)).mono ?_
              rintro e w' ⟨rfl, rfl⟩
              rw [H3.out]
              go_wp2_with fail
              go_ret2
              exact ⟨ret_ib (by rw [HV.out, HK.out]; rfl) HK.out.symm, rfl⟩
        · have H1 := Lib.hid hA1
          cases hA2 : [c5, c6].all Tk.isDig
          · have H2 := Lib.hid hA2
            have HK : Hid (pk = false) := by show _ = _; rw [HP.out, hA1, hA2]; rfl
            clear hA2 hA1
            cases hA3 : [c8, c9].all Tk.isDig
            all_goals
              have H3 := Lib.hid hA3
              clear hA3
              go_enter Tryz.func85, Tryz.ntmps85
              go_wp2_with fail
              refine (calDigits_any [c0, c1, c2, c3] _ (by simp)).mono ?_
              rintro e w' ⟨rfl, rfl⟩
              rw [H1.out]
              go_wp2_with fail
              refine (calDigits_any [c5, c6] _ (by simp)).mono ?_
              rintro e w' ⟨rfl, rfl⟩
              rw [H2.out]
              go_wp2_with fail
              refine (calDigits_any [c8, c9] _ (by simp)).mono ?_
              rintro e w' ⟨rfl, rfl⟩
              rw [H3.out]
              go_wp2_with fail
              go_ret2
              exact ⟨ret_ib (by rw [HV.out, HK.out]; rfl) HK.out.symm, rfl⟩
          · have H2 := Lib.hid hA2
            cases hA3 : [c8, c9].all Tk.isDig
            · have H3 := Lib.hid hA3
              have HK : Hid (pk = false) := by show _ = _; rw [HP.out, hA1, hA2, hA3]; rfl
              clear hA3 hA2 hA1
              go_enter Tryz.func85, Tryz.ntmps85
              go_wp2_with fail
              refine (calDigits_any [c0, c1, c2, c3] _ (by simp)).mono ?_
              rintro e w' ⟨rfl, rfl⟩
              rw [H1.out]
              go_wp2_with fail
              refine (calDigits_any [c5, c6] _ (by simp)).mono ?_
              rintro e w' ⟨rfl, rfl⟩
              rw [H2.out]
              go_wp2_with fail
              refine (calDigits_any [c8, c9] _ (by simp)).mono ?_
              rintro e w' ⟨rfl, rfl⟩
              rw [H3.out]
              go_wp2_with fail
              go_ret2
              exact ⟨ret_ib (by rw [HV.out, HK.out]; rfl) HK.out.symm, rfl⟩
            · have H3 := Lib.hid hA3
              have e1 : digR [c0, c1, c2, c3] = Tk.val [c0, c1, c2, c3] := by unfold digR; rw [hA1]; rfl
              have e2 : digR [c5, c6] = Tk.val [c5, c6] := by unfold digR; rw [hA2]; rfl
              have e3 : digR [c8, c9] = Tk.val [c8, c9] := by unfold digR; rw [hA3]; rfl
              have HK : Hid (pk = Tk.dayOK (digR [c0, c1, c2, c3]) (digR [c5, c6]) (digR [c8, c9])) := by show _ = _; rw [HP.out, hA1, hA2, hA3, e1, e2, e3]; rfl
              have HW : Hid (pr = dayR (digR [c0, c1, c2, c3]) (digR [c5, c6]) (digR [c8, c9])) := by
                show _ = _
                unfold dayR
                rw [HV.out, HK.out, e1, e2, e3]
              have hb3 := (digR_le [c8, c9]).2
              have hb : digR [c8, c9] ≤ 1000 := by simp at hb3; omega
              clear hb3 e1 e2 e3 hA3 hA2 hA1
              go_enter Tryz.func85, Tryz.ntmps85
              go_wp2_with fail
              refine (calDigits_any [c0, c1, c2, c3] _ (by simp)).mono ?_
              rintro e w' ⟨rfl, rfl⟩
              rw [H1.out]
              go_wp2_with fail
              refine (calDigits_any [c5, c6] _ (by simp)).mono ?_
              rintro e w' ⟨rfl, rfl⟩
              rw [H2.out]
              go_wp2_with fail
              refine (calDigits_any [c8, c9] _ (by simp)).mono ?_
              rintro e w' ⟨rfl, rfl⟩
              rw [H3.out]
              go_wp2_with fail
              refine (calDay_any _ _ _ _ HL.out hb).mono ?_
              rintro e w' ⟨rfl, rfl⟩
              rw [← HK.out, ← HW.out]
              go_wp2_with fail
              go_ret2
              exact ⟨rfl, rfl⟩
      · have g4 : ((c4.toNat : Int) != 45) = false := by simp; omega
        have g7 : ((c7.toNat : Int) != 45) = true := by simp; omega
        have HP : Hid (parseOK [c0, c1, c2, c3, c4, c5, c6, c7, c8, c9] = false) := by
          show _ = _
          unfold parseOK
          rw [form_ten]
          simp [h7]
        clear h4 h7
        go_enter Tryz.func85, Tryz.ntmps85
        go_wp2_with fail
        go_ret2
        exact ⟨ret_ib (by unfold parseR; rw [HP.out]; rfl) HP.out.symm, rfl⟩
    · have g4 : ((c4.toNat : Int) != 45) = true := by simp; omega
      have HP : Hid (parseOK [c0, c1, c2, c3, c4, c5, c6, c7, c8, c9] = false) := by
        show _ = _
        unfold parseOK
        rw [form_ten]
        simp [h4]
      clear h4
      go_enter Tryz.func85, Tryz.ntmps85
      go_wp2_with fail
      go_ret2
      exact ⟨ret_ib (by unfold parseR; rw [HP.out]; rfl) HP.out.symm, rfl⟩
  · have g : ((l.length : Int) != 10) = true := by simp; omega
    have HP : Hid (parseOK l = false) := by
      show _ = _
      unfold parseOK
      simp [h10]
    clear h10
    go_enter Tryz.func85, Tryz.ntmps85
    go_wp2_with fail
    go_ret2
    exact ⟨ret_ib (by unfold parseR; rw [HP.out]; rfl) HP.out.symm, rfl⟩
end Go.Proofs.YtpdbkbadjgellaaGreatDoor

namespace Go.Proofs.YtpdbkbadjgellaaGreatDoor
namespace Tk

theorem val_append (a b : List UInt8) : val (a ++ b) = val a * 10 ^ b.length + val b := by
  have key : ∀ (b : List UInt8) (n : Nat), b.foldl (fun n c => n * 10 + (c.toNat - 48)) n = n * 10 ^ b.length + b.foldl (fun n c => n * 10 + (c.toNat - 48)) 0 := by
    intro b
    induction b with
    | nil => intro n; simp
    | cons c r ih =>
      intro n
      simp only [List.foldl_cons, List.length_cons]
      rw [ih (n * 10 + (c.toNat - 48)), ih (0 * 10 + (c.toNat - 48)), Nat.pow_succ, Nat.add_mul, Nat.mul_assoc, Nat.mul_comm 10 (10 ^ r.length)]
      simp
      omega
  unfold val
  rw [List.foldl_append]
  exact key b _

/-- The digits among the first k bytes of a number. -/
def pre (l : List UInt8) (k : Nat) : List UInt8 := l.take (min k (digs l)) ++ (l.drop (digs l + 1)).take (k - (digs l + 1))

theorem pre_zero (l : List UInt8) : pre l 0 = [] := by simp [pre]
theorem pre_end (l : List UInt8) : pre l (numEnd l) = l.take (digs l) ++ (l.drop (digs l + 1)).take (frac l) := by
  unfold pre numEnd
  split
  · rw [Nat.min_eq_right (by omega), show digs l + (1 + frac l) - (digs l + 1) = frac l by omega]
  · rename_i h
    rw [Nat.min_self, show digs l - (digs l + 1) = 0 by omega]
    unfold frac
    rw [if_neg h]
theorem numN_eq (l : List UInt8) : numN l = val (pre l (numEnd l)) := by rw [pre_end]; rfl
theorem pre_point (l : List UInt8) : pre l (digs l + 1) = pre l (digs l) := by
  unfold pre
  rw [Nat.min_eq_right (by omega), Nat.min_self, Nat.sub_self, show digs l - (digs l + 1) = 0 by omega]
theorem pre_whole (l : List UInt8) (k : Nat) (hk : k < digs l) (h : k < l.length) : pre l (k + 1) = pre l k ++ [l[k]] := by
  unfold pre
  rw [Nat.min_eq_left (by omega), Nat.min_eq_left (by omega), show k + 1 - (digs l + 1) = 0 by omega, show k - (digs l + 1) = 0 by omega, List.take_succ_eq_append_getElem h]
  simp
theorem pre_part (l : List UInt8) (k : Nat) (hk : digs l + 1 ≤ k) (h : k < l.length) : pre l (k + 1) = pre l k ++ [l[k]] := by
  unfold pre
  rw [Nat.min_eq_right (by omega), Nat.min_eq_right (by omega), show k + 1 - (digs l + 1) = (k - (digs l + 1)) + 1 by omega, List.take_succ_eq_append_getElem (by simp; omega), List.append_assoc]
  congr 3
  rw [List.getElem_drop]
  congr 1
  omega

/-- A byte of a number is its point or a digit. -/
theorem num_byte (l : List UInt8) (k : Nat) (hk : k < numEnd l) (h : k < l.length) :
    (k = digs l ∧ l[k].toNat = 46 ∧ pre l (k + 1) = pre l k) ∨ (isDig l[k] = true ∧ pre l (k + 1) = pre l k ++ [l[k]]) := by
  rcases Nat.lt_trichotomy k (digs l) with hlt | heq | hgt
  · exact .inr ⟨lead_all isDig l k hlt h, pre_whole l k hlt h⟩
  · have hf : hasFrac l = true := by
      unfold numEnd at hk
      split at hk
      · assumption
      · omega
    refine .inl ⟨heq, ?_, by rw [heq]; exact pre_point l⟩
    unfold hasFrac at hf
    rw [Bool.and_eq_true] at hf
    have := of_decide_eq_true hf.1
    rw [List.getD_eq_getElem?_getD, ← heq, List.getElem?_eq_getElem h] at this
    simpa using this
  · have hf : hasFrac l = true := by
      unfold numEnd at hk
      split at hk
      · assumption
      · omega
    refine .inr ⟨?_, pre_part l k (by omega) h⟩
    have hfr : frac l = lead isDig (l.drop (digs l + 1)) := by unfold frac; rw [if_pos hf]; rfl
    have hn : numEnd l = digs l + (1 + frac l) := by unfold numEnd; rw [if_pos hf]
    have := lead_all isDig (l.drop (digs l + 1)) (k - (digs l + 1)) (by omega) (by simp; omega)
    rw [List.getElem_drop] at this
    have e : digs l + 1 + (k - (digs l + 1)) = k := by omega
    simpa [e] using this

theorem pre_mono (l : List UInt8) (hl : numEnd l ≤ l.length) (k j : Nat) (h : k + j ≤ numEnd l) : val (pre l k) ≤ val (pre l (k + j)) := by
  induction j with
  | zero => exact Nat.le_refl _
  | succ j ih =>
    refine Nat.le_trans (ih (by omega)) ?_
    rcases num_byte l (k + j) (by omega) (by omega) with ⟨_, _, e⟩ | ⟨_, e⟩
    · rw [show k + (j + 1) = k + j + 1 by omega, e]; exact Nat.le_refl _
    · rw [show k + (j + 1) = k + j + 1 by omega, e, val_append]; simp; omega

theorem newR_over (n d : Nat) (hd : 1 ≤ d) (hd2 : d ≤ 1000000) (hn : 1000000000000 * 1000000 < n) : newR n d = none := by
  unfold newR
  rw [if_pos]
  refine .inl ?_
  rcases Nat.lt_or_ge 1000000000000 (n / Nat.gcd n d) with h | h
  · exact h
  · exfalso
    have hg : Nat.gcd n d ≤ 1000000 := Nat.le_trans (Nat.gcd_le_right _ hd) hd2
    have he : n / Nat.gcd n d * Nat.gcd n d = n := Nat.div_mul_cancel (Nat.gcd_dvd_left _ _)
    have : n / Nat.gcd n d * Nat.gcd n d ≤ 1000000000000 * 1000000 := Nat.mul_le_mul h hg
    omega

theorem pow_le6 (l : List UInt8) (k : Nat) (hk : k ≤ frac l) (h : frac l ≤ most l) : den0 l * 10 ^ k ≤ 1000000 := by
  unfold most at h
  unfold den0
  split
  · rename_i hp
    rw [if_pos hp] at h
    have : 10 ^ k ≤ 10 ^ 4 := Nat.pow_le_pow_right (by omega) (by omega)
    omega
  · rename_i hp
    rw [if_neg hp] at h
    have : 10 ^ k ≤ 10 ^ 6 := Nat.pow_le_pow_right (by omega) (by omega)
    omega
theorem numD_pos (l : List UInt8) : 1 ≤ numD l := by
  unfold numD den0
  have : 1 ≤ 10 ^ frac l := Nat.pow_pos (by omega)
  split <;> omega

theorem not_bad (l : List UInt8) (h : badNum l = false) : frac l ≤ most l := by
  unfold badNum at h
  rw [Bool.or_eq_false_iff, Bool.or_eq_false_iff] at h
  have := of_decide_eq_false h.1.2
  omega

/-- A numerator that is too great before its last digit. -/
theorem num_over (l : List UInt8) (hb : badNum l = false) (hl : numEnd l ≤ l.length) (k : Nat) (hk : k < numEnd l) (hd : pre l (k + 1) = pre l k ++ [l[k]'(by omega)]) (hn : 100000000000000000 < val (pre l k)) : readNum l = .error 4 := by
  have h1 := pre_mono l hl (k + 1) (numEnd l - (k + 1)) (by omega)
  rw [show k + 1 + (numEnd l - (k + 1)) = numEnd l by omega, hd, val_append, ← numN_eq] at h1
  unfold readNum
  rw [if_neg (by rw [hb]; simp), newR_over _ _ (numD_pos l) (pow_le6 l _ (Nat.le_refl _) (not_bad l hb)) (by simp at h1; omega)]
end Tk
end Go.Proofs.YtpdbkbadjgellaaGreatDoor

namespace Go.Proofs.YtpdbkbadjgellaaGreatDoor
namespace Tk

def yearUp : Nat → Int → Int → Int
  | 0, y, _ => y
  | f + 1, y, day => if begn (y + 1) ≤ day then yearUp f (y + 1) day else y
def yOf (day : Int) : Int := yearUp 300 (1970 + day / 366) day
def monUp : Nat → Int → Int → Int → Int × Int
  | 0, _, m, r => (m, r)
  | f + 1, y, m, r => if mlen y m ≤ r then monUp f y (m + 1) (r - mlen y m) else (m, r)
/-- The year, the month and the day of the month of a day. -/
def mOf (day : Int) : Int := (monUp 12 (yOf day) 1 (day - begn (yOf day))).1
def dOf (day : Int) : Int := (monUp 12 (yOf day) 1 (day - begn (yOf day))).2 + 1

theorem begn_succ (y : Int) : begn (y + 1) = begn y + (if leapB y = true then 366 else 365) := by
  unfold begn leapsN leapB
  by_cases h : y % 4 = 0 ∧ (y % 100 ≠ 0 ∨ y % 400 = 0)
  · rw [if_pos (by simpa using h)]; omega
  · rw [if_neg (by simpa using h)]; omega
theorem cum12 (y : Int) : cumM y 12 = if leapB y = true then 366 else 365 := by
  simp only [cumM]
  by_cases h : leapB y = true <;> simp [mlen, h]
theorem begn_guess (day : Int) (h : 0 ≤ day) : begn (1970 + day / 366) ≤ day := by unfold begn leapsN; omega
theorem begn_2200 : begn 2200 = 84006 := by decide
theorem begn_mono (a b : Int) (h : a ≤ b) : begn a ≤ begn b := by unfold begn leapsN; omega

theorem yearUp_stop (f : Nat) (y day : Int) (h : day < begn (y + 1)) : yearUp f y day = y := by
  cases f with
  | zero => rfl
  | succ f => rw [yearUp, if_neg (by omega)]
theorem monUp_stop (f : Nat) (y m r : Int) (h : r < mlen y m) : monUp f y m r = (m, r) := by
  cases f with
  | zero => rfl
  | succ f => rw [monUp, if_neg (by omega)]

theorem mlen_lo (y m : Int) : 28 ≤ mlen y m ∧ mlen y m ≤ 31 := by unfold mlen; repeat' split <;> omega
theorem cum_lo (y : Int) (k : Nat) : 0 ≤ cumM y k ∧ cumM y k ≤ 31 * k := by
  induction k with
  | zero => simp [cumM]
  | succ k ih => have := mlen_lo y (k + 1); simp only [cumM]; omega
theorem cum_succ (y : Int) (k : Nat) : cumM y (k + 1) = cumM y k + mlen y (k + 1) := rfl

/-- The years' loop. -/
theorem yearUp_spec (f : Nat) (y day : Int) (h0 : begn y ≤ day) (h1 : day < begn (y + f + 1)) : begn (yearUp f y day) ≤ day ∧ day < begn (yearUp f y day + 1) ∧ y ≤ yearUp f y day := by
  induction f generalizing y with
  | zero => rw [yearUp]; exact ⟨h0, by simpa using h1, Int.le_refl _⟩
  | succ f ih =>
    rw [yearUp]
    split
    · rename_i h
      have := ih (y + 1) h (by rw [show y + 1 + (f : Int) + 1 = y + ((f + 1 : Nat) : Int) + 1 by omega]; exact h1)
      omega
    · omega
theorem yOf_spec (day : Int) (h0 : 0 ≤ day) (h1 : day ≤ 84005) : begn (yOf day) ≤ day ∧ day < begn (yOf day + 1) ∧ 1970 ≤ yOf day ∧ yOf day ≤ 2199 := by
  have hg := begn_guess day h0
  have h := yearUp_spec 300 (1970 + day / 366) day hg (by
    have := begn_mono 2200 (1970 + day / 366 + (300 : Nat) + 1) (by omega)
    rw [begn_2200] at this
    omega)
  refine ⟨h.1, h.2.1, ?_, ?_⟩
  · have := h.2.2; unfold yOf; omega
  · rcases Int.lt_or_le (yOf day) 2200 with h' | h'
    · omega
    · have := begn_mono 2200 (yOf day) h'
      rw [begn_2200] at this
      have := h.1
      unfold yOf at *
      omega

/-- The months' loop. -/
theorem monUp_spec (f : Nat) (y : Int) (k : Nat) (r : Int) (hk : k + f = 12) (h0 : 0 ≤ r) (h1 : r + cumM y k < cumM y 12) :
    ∃ m : Nat, 1 ≤ m ∧ m ≤ 12 ∧ (monUp f y (k + 1) r).1 = m ∧ 0 ≤ (monUp f y (k + 1) r).2 ∧ (monUp f y (k + 1) r).2 < mlen y m ∧ (monUp f y (k + 1) r).2 + cumM y (m - 1) = r + cumM y k := by
  induction f generalizing k r with
  | zero => rw [show k = 12 by omega] at h1; omega
  | succ f ih =>
    rw [monUp]
    split
    · rename_i h
      obtain ⟨m, h2, h3, h4, h5, h6, h7⟩ := ih (k + 1) (r - mlen y (k + 1)) (by omega) (by omega) (by rw [cum_succ]; omega)
      have e : ((k + 1 : Nat) : Int) + 1 = (k : Int) + 1 + 1 := by omega
      rw [e] at h4 h5 h6 h7
      refine ⟨m, h2, h3, h4, h5, h6, ?_⟩
      rw [h7]
      simp only [cumM]
      omega
    · rename_i h
      exact ⟨k + 1, by omega, by omega, by simp, h0, by simp; omega, by simp⟩

theorem date_spec (day : Int) (h0 : 0 ≤ day) (h1 : day ≤ 84005) : dayOK (yOf day) (mOf day) (dOf day) = true ∧ dayNo (yOf day) (mOf day) (dOf day) = day := by
  obtain ⟨a, b, c, d⟩ := yOf_spec day h0 h1
  have hs := begn_succ (yOf day)
  rw [← cum12] at hs
  obtain ⟨m, h2, h3, h4, h5, h6, h7⟩ := monUp_spec 12 (yOf day) 0 (day - begn (yOf day)) rfl (by omega) (by simp only [show cumM (yOf day) 0 = 0 from rfl]; omega)
  simp only [show ((0 : Nat) : Int) + 1 = 1 from rfl, show cumM (yOf day) 0 = 0 from rfl] at h4 h5 h6 h7
  have em : mOf day = m := h4
  have ed : dOf day = (monUp 12 (yOf day) 1 (day - begn (yOf day))).2 + 1 := rfl
  refine ⟨?_, ?_⟩
  · unfold dayOK
    rw [em, ed]
    simp
    omega
  · unfold dayNo
    rw [em, ed, show ((m : Int) - 1).toNat = m - 1 by omega]
    omega

/-- A number with two digits. -/
def two (n : Int) : List UInt8 := if n < 10 then 48 :: Lib.itoa n else Lib.itoa n
/-- The text of a day. -/
def dateText (day : Int) : List UInt8 := if 0 ≤ day ∧ day ≤ 84005 then Lib.itoa (yOf day) ++ [45] ++ two (mOf day) ++ [45] ++ two (dOf day) else []
end Tk
end Go.Proofs.YtpdbkbadjgellaaGreatDoor

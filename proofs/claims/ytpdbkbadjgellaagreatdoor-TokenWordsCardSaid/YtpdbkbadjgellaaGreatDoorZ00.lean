/-
  The plain functions behind package token: what a text's tokens are. No program in sight.
  Small lemmas for the walks over package token.
  The walks of package token's small functions.
  The walks of package token's IsName, symbolLength, isDate, skip.
-/
import Derived.Test.YtpdbkbadjgellaaGreatDoorProg
import Derived.WalkKit
import Derived.WalkSpells
import Derived.WalkLawsBesides
import Derived.Outline
import Derived.Lib.Hide
import Derived.Deep.DeepFit
import Derived.Deep.QuietTactic
import Derived.BigQuiet
import Derived.Test.YtpdbkbadjgellaaGreatDoorShelf
namespace Go.Proofs.YtpdbkbadjgellaaGreatDoor
namespace Tk

def isDig (c : UInt8) : Bool := decide (48 ≤ c.toNat ∧ c.toNat ≤ 57)
def isLow (c : UInt8) : Bool := decide (97 ≤ c.toNat ∧ c.toNat ≤ 122)
def isWord (c : UInt8) : Bool := isLow c || isDig c || decide (c.toNat = 95)
def isBlank (c : UInt8) : Bool := decide (c.toNat = 32 ∨ c.toNat = 9 ∨ c.toNat = 10 ∨ c.toNat = 13)

/-- The number of elements at the head that meet a test. -/
def lead (p : UInt8 → Bool) : List UInt8 → Nat
  | [] => 0
  | c :: r => if p c = true then lead p r + 1 else 0

theorem lead_le (p : UInt8 → Bool) (l : List UInt8) : lead p l ≤ l.length := by
  induction l with
  | nil => simp [lead]
  | cons c r ih => unfold lead; split <;> simp <;> omega

theorem lead_all (p : UInt8 → Bool) (l : List UInt8) (j : Nat) (hj : j < lead p l) (h : j < l.length) : p l[j] = true := by
  induction l generalizing j with
  | nil => simp at h
  | cons c r ih =>
    unfold lead at hj
    split at hj
    · rename_i hc
      cases j with
      | zero => simpa using hc
      | succ j => simp at h ⊢; exact ih j (by omega) h
    · omega

theorem lead_stop (p : UInt8 → Bool) (l : List UInt8) (h : lead p l < l.length) : p l[lead p l] = false := by
  induction l with
  | nil => simp at h
  | cons c r ih =>
    by_cases hc : p c = true
    · have e : lead p (c :: r) = lead p r + 1 := by simp [lead, hc]
      simp only [e, List.length_cons] at h ⊢
      simp only [List.getElem_cons_succ]
      exact ih (by omega)
    · have e : lead p (c :: r) = 0 := by simp [lead, hc]
      simp only [e]
      simpa using hc

/-- A count that stops rightly is the count. -/
theorem lead_eq (p : UInt8 → Bool) (l : List UInt8) (k : Nat) (hk : k ≤ l.length) (ha : ∀ j (h : j < l.length), j < k → p l[j] = true) (hs : ∀ h : k < l.length, p l[k] = false) : lead p l = k := by
  have h1 := lead_le p l
  rcases Nat.lt_trichotomy (lead p l) k with h | h | h
  · have := lead_stop p l (by omega)
    rw [ha _ _ h] at this
    cases this
  · exact h
  · have := lead_all p l k h (by omega)
    rw [hs (by omega)] at this
    cases this

def digs (l : List UInt8) : Nat := lead isDig l

/-- The keywords. -/
def keywords : List (List UInt8) := [[97, 103, 114, 101, 101, 109, 101, 110, 116], [105, 110, 112, 117, 116], [112, 97, 115, 116], [115, 99, 97, 108, 101], [114, 117, 108, 101], [112, 97, 121], [102, 114, 111, 109], [114, 111, 117, 110, 100, 101, 100], [116, 111], [105, 102], [116, 104, 101, 110], [101, 108, 115, 101], [97, 110, 100], [111, 114], [110, 111, 116], [116, 114, 117, 101], [102, 97, 108, 115, 101], [109, 105, 110], [109, 97, 120], [114, 111, 117, 110, 100], [97, 118, 101, 114, 97, 103, 101], [108, 97, 115, 116], [109, 111, 110, 101, 121], [104, 111, 117, 114, 115], [100, 97, 121, 115], [110, 117, 109, 98, 101, 114], [98, 111, 111, 108], [100, 111, 119, 110], [117, 112], [102, 108, 111, 111, 114], [99, 101, 105, 108, 105, 110, 103], [104, 97, 108, 102, 95, 117, 112], [104, 97, 108, 102, 95, 100, 111, 119, 110], [104, 97, 108, 102, 95, 101, 118, 101, 110]]
def isKey (l : List UInt8) : Bool := keywords.contains l
def wordLen : List UInt8 → Nat
  | [] => 0
  | c :: r => if isLow c = true then lead isWord r + 1 else 0
def isName (l : List UInt8) : Bool := decide (0 < l.length) && decide (l.length ≤ 24) && decide (wordLen l = l.length) && !isKey l

/-- The symbols of one byte, and those of two. -/
def signs : List UInt8 := [40, 41, 91, 93, 44, 59, 58, 61, 60, 62, 43, 45, 42, 47]
def pair (c d : UInt8) : Bool := decide (c = 60 ∧ d = 61 ∨ c = 62 ∧ d = 61 ∨ c = 60 ∧ d = 62)
def symLen : List UInt8 → Nat
  | [] => 0
  | c :: r => if pair c (r.headD 0) = true then 2 else if signs.contains c = true then 1 else 0

/-- The form of a date: digits at the places 'true', hyphens at the others. -/
def form : List Bool → List UInt8 → Bool
  | [], _ => true
  | _ :: _, [] => false
  | p :: ps, c :: r => (if p = true then isDig c else decide (c.toNat = 45)) && form ps r
def dateForm (l : List UInt8) : Bool := form [true, true, true, true, false, true, true, false, true, true] l

/-- The number that digits write. -/
def val (l : List UInt8) : Nat := l.foldl (fun n c => n * 10 + (c.toNat - 48)) 0

/-- The calendar. -/
def leapB (y : Int) : Bool := decide (y % 4 = 0 ∧ (y % 100 ≠ 0 ∨ y % 400 = 0))
def mlen (y m : Int) : Int := if m = 2 then (if leapB y = true then 29 else 28) else if m = 4 ∨ m = 6 ∨ m = 9 ∨ m = 11 then 30 else 31
def leapsN (y : Int) : Int := y / 4 - y / 100 + y / 400
def begn (y : Int) : Int := 365 * (y - 1970) + leapsN (y - 1) - 477
/-- The days of the first k months of a year. -/
def cumM (y : Int) : Nat → Int
  | 0 => 0
  | k + 1 => cumM y k + mlen y (k + 1)
def dayNo (y m d : Int) : Int := begn y + cumM y (m - 1).toNat + d - 1
def dayOK (y m d : Int) : Bool := decide (1970 ≤ y ∧ y ≤ 2199 ∧ 1 ≤ m ∧ m ≤ 12 ∧ 1 ≤ d ∧ d ≤ mlen y m)
def dateY (l : List UInt8) : Nat := val (l.take 4)
def dateM (l : List UInt8) : Nat := val ((l.drop 5).take 2)
def dateD (l : List UInt8) : Nat := val ((l.drop 8).take 2)
/-- The day that the ten bytes of a date's form name. -/
def dayOf (l : List UInt8) : Option Int :=
  if dayOK (dateY l) (dateM l) (dateD l) = true then some (dayNo (dateY l) (dateM l) (dateD l)) else none

/-- A fraction in lowest terms, if it fits. -/
def newR (n d : Nat) : Option (Nat × Nat) :=
  if n / Nat.gcd n d > 1000000000000 ∨ d / Nat.gcd n d > 1000000 then none else some (n / Nat.gcd n d, d / Nat.gcd n d)

structure Tok where
  kind : Int := 0
  text : List UInt8 := []
  num : Int := 0
  den : Int := 0
  day : Int := 0
  place : Int := 0

/-- A number at the beginning of a text: how many digits, is there a point, a percent sign. -/
def hasFrac (l : List UInt8) : Bool := decide ((l.getD (digs l) 0).toNat = 46) && isDig (l.getD (digs l + 1) 0)
def frac (l : List UInt8) : Nat := if hasFrac l = true then digs (l.drop (digs l + 1)) else 0
def numEnd (l : List UInt8) : Nat := if hasFrac l = true then digs l + (1 + frac l) else digs l
def pct (l : List UInt8) : Bool := decide ((l.getD (numEnd l) 0).toNat = 37)
def numLen (l : List UInt8) : Nat := if pct l = true then numEnd l + 1 else numEnd l
def most (l : List UInt8) : Nat := if pct l = true then 4 else 6
def den0 (l : List UInt8) : Nat := if pct l = true then 100 else 1
def badNum (l : List UInt8) : Bool :=
  decide (digs l > 1) && decide ((l.getD 0 0).toNat = 48) || decide (frac l > most l) || (isLow (l.getD (numLen l) 0) || decide ((l.getD (numLen l) 0).toNat = 95))
def numN (l : List UInt8) : Nat := val (l.take (digs l) ++ (l.drop (digs l + 1)).take (frac l))
def numD (l : List UInt8) : Nat := den0 l * 10 ^ frac l
def readNum (l : List UInt8) : Except Int (Nat × Nat × Nat) :=
  if badNum l = true then .error 6 else match newR (numN l) (numD l) with
    | none => .error 4
    | some (a, b) => .ok (a, b, numLen l)

/-- The token at the beginning of a text. -/
def readTok (l : List UInt8) : Except Int (Tok × Nat) :=
  if dateForm l = true then match dayOf l with
    | none => .error 6
    | some d => .ok ({ kind := 3, day := d }, 10)
  else if isDig (l.headD 0) = true then match readNum l with
    | .error e => .error e
    | .ok (a, b, n) => .ok ({ kind := 2, num := a, den := b }, n)
  else if isLow (l.headD 0) = true then
    if (isKey (l.take (wordLen l)) || isName (l.take (wordLen l))) = true then .ok ({ kind := 1, text := l.take (wordLen l) }, wordLen l) else .error 6
  else if symLen l = 0 then .error 6 else .ok ({ kind := 4, text := l.take (symLen l) }, symLen l)

/-- The bytes of blanks and comments at the beginning of a text; 'true': inside a comment. -/
def skipN : Bool → List UInt8 → Nat
  | _, [] => 0
  | false, c :: r => if isBlank c = true then skipN false r + 1 else if c.toNat = 35 then skipN true r + 1 else 0
  | true, c :: r => if c.toNat = 10 then skipN false r + 1 else skipN true r + 1

/-- The tokens of a text that begins at a place, or the place of the first error and the error. -/
def scanF : Nat → Nat → List UInt8 → Except (Nat × Int) (List Tok)
  | 0, _, _ => .ok []
  | f + 1, at_, l =>
    if l.length ≤ skipN false l then .ok [] else
    match readTok (l.drop (skipN false l)) with
    | .error e => .error (at_ + skipN false l, e)
    | .ok (t, n) =>
      match scanF f (at_ + skipN false l + n) ((l.drop (skipN false l)).drop n) with
      | .error e => .error e
      | .ok ts => .ok ({ t with place := at_ + skipN false l } :: ts)

end Tk
end Go.Proofs.YtpdbkbadjgellaaGreatDoor

namespace Go.Proofs.YtpdbkbadjgellaaGreatDoor
open Go.RowKit

theorem ret_int {k : IntKind} {a b : Int} (h : a = b) : Ending.returned (.int k a) = .returned (.int k b) := by rw [h]
theorem ret_bool {a b : Bool} (h : a = b) : Ending.returned (.bool a) = .returned (.bool b) := by rw [h]
theorem ret_str {a b : List UInt8} (h : a = b) : Ending.returned (.string ⟨a.toArray⟩) = .returned (.string ⟨b.toArray⟩) := by rw [h]
/-- A string's bytes, as the list has them. -/
theorem ba_get (l : List UInt8) (k : Nat) (h : k < (⟨l.toArray⟩ : ByteArray).size) : (⟨l.toArray⟩ : ByteArray)[k] = l[k]'h := rfl
/-- A cut of a string, as the list has it. -/
theorem ba_extract (l : List UInt8) (a b : Nat) : ByteArray.extract ⟨l.toArray⟩ a b = ⟨((l.drop a).take (b - a)).toArray⟩ := by
  apply ByteArray.ext
  simp [List.extract_eq_take_drop, List.extract_toArray]
/-- Two strings joined, as lists. -/
theorem ba_append (a b : List UInt8) : (⟨a.toArray⟩ ++ ⟨b.toArray⟩ : ByteArray) = ⟨(a ++ b).toArray⟩ := by
  apply ByteArray.ext
  simp
theorem take_rest (l : List UInt8) (a : Nat) : (l.drop a).take (l.length - a) = l.drop a := List.take_of_length_le (by simp)
theorem belowN {B : Nat} {a w : World} (h : Below B a w) (n : Nat) : Below B a (w.drewN n) := ⟨h.os, h.tape, h.output, h.size, h.block⟩
theorem quiet_left {P : Program} {f : FuncId} {args : Array Value} {w : World} {n : Nat} {v : Value}
    (h : Calls P f args (w.drewN n) fun e w' => e = .returned v ∧ w.drewN n = w') : Calls P f args (w.drewN n) fun e w'' => e = .returned v ∧ ∃ m, w'' = w.drewN m :=
  h.mono fun _ _ ⟨he, hm⟩ => ⟨he, n, hm.symm⟩
/-- What is owned stays owned behind a call that leaves all old memory alone. -/
theorem owns_below {w w' : World} {base : Nat} {e : TypeId} {size : Nat} {v : Value} {n : Nat} {xs : List Value} (h : w.ownsRow base e size v n xs) (hb : Below w.heap.size w w') : w'.ownsRow base e size v n xs := by
  refine h.kept (row := none) ⟨hb.os, hb.tape, hb.output, hb.size, fun k hk _ => hb.block k hk⟩ ?_
  cases hv : v.ownBlock with
  | none => exact .inl rfl
  | some g => exact .inr (by simp)
theorem getD_eq (l : List UInt8) (k : Nat) (h : k < l.length) : l.getD k 0 = l[k] := by
  simp [List.getD_eq_getElem?_getD, h]
end Go.Proofs.YtpdbkbadjgellaaGreatDoor

namespace Go.Proofs.YtpdbkbadjgellaaGreatDoor
open Go.RowKit

theorem isDigit_any (c : UInt8) (w : World) :
    Calls Tryz.prog 67 #[.int .u8 c.toNat] w fun e w' => e = .returned (.bool (Tk.isDig c)) ∧ w = w' := by
  go_enter Tryz.func67, Tryz.ntmps67
  go_wp2
  all_goals
    go_ret
    refine ⟨ret_bool ?_, rfl⟩
    unfold Tk.isDig
    rw [Bool.eq_iff_iff]
    simp
    omega

theorem isLower_any (c : UInt8) (w : World) :
    Calls Tryz.prog 66 #[.int .u8 c.toNat] w fun e w' => e = .returned (.bool (Tk.isLow c)) ∧ w = w' := by
  go_enter Tryz.func66, Tryz.ntmps66
  go_wp2
  all_goals
    go_ret
    refine ⟨ret_bool ?_, rfl⟩
    unfold Tk.isLow
    rw [Bool.eq_iff_iff]
    simp
    omega

attribute [local go_sem] ba_get

set_option maxHeartbeats 400000 in
theorem digits_any (l : List UInt8) (w : World) (hs : l.length ≤ maxLen) :
    Calls Tryz.prog 111 #[.string ⟨l.toArray⟩] w fun e w' => e = .returned (.int .i64 (Tk.digs l)) ∧ w = w' := by
  unfold maxLen at hs
  go_enter Tryz.func111, Tryz.ntmps111
  go_wp2
  go_loop [3] (fun n => ∃ k : Nat, k ≤ l.length ∧ n = .int .i64 k ∧ Hid (∀ j (h : j < l.length), j < k → Tk.isDig l[j] = true)) (fun i => l.length - (intOf i).toNat)
  case atStart => exact ⟨0, Nat.zero_le _, rfl, fun _ _ h => by omega⟩
  case round =>
    obtain ⟨k, hk, rfl, HA⟩ := hrel
    by_cases hlt : k < l.length
    · by_cases hd : Tk.isDig l[k] = true
      · have HD := Lib.hid hd
        go_wp2_with ((go_at_call 67; refine (isDigit_any _ _).mono ?_; rintro e w' ⟨rfl, rfl⟩))
        go_round
        case rel => exact ⟨k + 1, by omega, by go_num, fun j h hj => if e : j = k then by subst e; exact HD.out else HA.out j h (by omega)⟩
        case measure => simp [intOf]; omega
      · have hd : Tk.isDig l[k] = false := by simpa using hd
        have HD := Lib.hid hd
        go_wp2_with ((go_at_call 67; refine (isDigit_any _ _).mono ?_; rintro e w' ⟨rfl, rfl⟩))
        go_ret
        exact ⟨ret_int (by unfold Tk.digs; rw [Tk.lead_eq _ _ k hk HA.out (fun _ => HD.out)]), rfl⟩
    · go_wp2_with fail
      go_ret
      exact ⟨ret_int (by unfold Tk.digs; rw [Tk.lead_eq _ _ k hk HA.out (fun h => absurd h hlt)]), rfl⟩

theorem isWord_cases (c : UInt8) : Tk.isWord c = true ↔ (Tk.isLow c = true ∨ (Tk.isLow c = false ∧ Tk.isDig c = true) ∨ (Tk.isLow c = false ∧ Tk.isDig c = false ∧ c.toNat = 95)) := by
  unfold Tk.isWord
  cases Tk.isLow c <;> cases Tk.isDig c <;> simp

theorem isWord_false {c : UInt8} (h : Tk.isWord c = false) : Tk.isLow c = false ∧ Tk.isDig c = false ∧ ((c.toNat : Int) == 95) = false := by
  unfold Tk.isWord at h
  cases hl : Tk.isLow c <;> cases hd : Tk.isDig c <;> simp_all
  omega

set_option maxHeartbeats 400000 in
theorem wordLength_any (l : List UInt8) (w : World) (hs : l.length ≤ maxLen) :
    Calls Tryz.prog 32 #[.string ⟨l.toArray⟩] w fun e w' => e = .returned (.int .i64 (Tk.wordLen l)) ∧ w = w' := by
  unfold maxLen at hs
  cases l with
  | nil =>
    go_enter Tryz.func32, Tryz.ntmps32
    go_wp2
    go_ret
    exact ⟨rfl, rfl⟩
  | cons c r =>
    by_cases hc : Tk.isLow c = true
    · have HC := Lib.hid hc
      simp only [List.length_cons] at hs
      go_enter Tryz.func32, Tryz.ntmps32
      go_wp2_with ((go_at_call 66; refine (isLower_any _ _).mono ?_; rintro e w' ⟨rfl, rfl⟩))
      clear hc
      go_loop [3] (fun n => ∃ k : Nat, k ≤ r.length ∧ n = .int .i64 (k + 1) ∧ Hid (∀ j (h : j < r.length), j < k → Tk.isWord r[j] = true)) (fun i => r.length + 1 - (intOf i).toNat)
      case atStart => exact ⟨0, Nat.zero_le _, rfl, fun _ _ h => by omega⟩
      case round =>
        obtain ⟨k, hk, rfl, HA⟩ := hrel
        by_cases hlt : k < r.length
        · by_cases hd : Tk.isWord r[k] = true
          · have HD := Lib.hid hd
            rcases (isWord_cases _).1 hd with h1 | ⟨h1, h2⟩ | ⟨h1, h2, h3⟩
            all_goals clear hd
            · go_wp2_with ((first | (go_at_call 66; refine (isLower_any _ _).mono ?_; rintro e w' ⟨rfl, rfl⟩) | (go_at_call 67; refine (isDigit_any _ _).mono ?_; rintro e w' ⟨rfl, rfl⟩)))
              go_round
              case rel => exact ⟨k + 1, by omega, by go_num, fun j h hj => if e : j = k then by subst e; exact HD.out else HA.out j h (by omega)⟩
              case measure => simp [intOf]; omega
            · go_wp2_with ((first | (go_at_call 66; refine (isLower_any _ _).mono ?_; rintro e w' ⟨rfl, rfl⟩) | (go_at_call 67; refine (isDigit_any _ _).mono ?_; rintro e w' ⟨rfl, rfl⟩)))
              go_round
              case rel => exact ⟨k + 1, by omega, by go_num, fun j h hj => if e : j = k then by subst e; exact HD.out else HA.out j h (by omega)⟩
              case measure => simp [intOf]; omega
            · have h4 : ((r[k].toNat : Int) == 95) = true := by simp; omega
              clear h3
              go_wp2_with ((first | (go_at_call 66; refine (isLower_any _ _).mono ?_; rintro e w' ⟨rfl, rfl⟩) | (go_at_call 67; refine (isDigit_any _ _).mono ?_; rintro e w' ⟨rfl, rfl⟩)))
              go_round
              case rel => exact ⟨k + 1, by omega, by go_num, fun j h hj => if e : j = k then by subst e; exact HD.out else HA.out j h (by omega)⟩
              case measure => simp [intOf]; omega
          · have hd : Tk.isWord r[k] = false := by simpa using hd
            have HD := Lib.hid hd
            obtain ⟨h1, h2, h4⟩ := isWord_false hd
            clear hd
            go_wp2_with ((first | (go_at_call 66; refine (isLower_any _ _).mono ?_; rintro e w' ⟨rfl, rfl⟩) | (go_at_call 67; refine (isDigit_any _ _).mono ?_; rintro e w' ⟨rfl, rfl⟩)))
            go_ret
            exact ⟨ret_int (by simp only [Tk.wordLen, HC.out, if_true]; rw [Tk.lead_eq _ _ k hk HA.out (fun _ => HD.out)]; omega), rfl⟩
        · go_wp2_with fail
          go_ret
          exact ⟨ret_int (by simp only [Tk.wordLen, HC.out, if_true]; rw [Tk.lead_eq _ _ k hk HA.out (fun h => absurd h hlt)]; omega), rfl⟩
    · have hc : Tk.isLow c = false := by simpa using hc
      have HC := Lib.hid hc
      go_enter Tryz.func32, Tryz.ntmps32
      go_wp2_with ((go_at_call 66; refine (isLower_any _ _).mono ?_; rintro e w' ⟨rfl, rfl⟩))
      go_ret
      exact ⟨ret_int (by simp [Tk.wordLen, HC.out]), rfl⟩

theorem key_false {l k : List UInt8} (h : Tk.isKey l = false) (hk : k ∈ Tk.keywords) : (l == k) = false := by
  rw [beq_eq_false_iff_ne]
  rintro rfl
  unfold Tk.isKey at h
  rw [List.contains_iff_mem.2 hk] at h
  cases h

set_option maxHeartbeats 2000000 in
theorem isKeyword_any (l : List UInt8) (w : World) :
    Calls Tryz.prog 13 #[.string ⟨l.toArray⟩] w fun e w' => e = .returned (.bool (Tk.isKey l)) ∧ w = w' := by
  by_cases hk : Tk.isKey l = true
  · have hm : l ∈ Tk.keywords := List.contains_iff_mem.1 hk
    rw [hk]
    clear hk
    simp only [Tk.keywords, List.mem_cons, List.not_mem_nil, or_false] at hm
    rcases hm with rfl | rfl | rfl | rfl | rfl | rfl | rfl | rfl | rfl | rfl | rfl | rfl | rfl | rfl | rfl | rfl | rfl | rfl | rfl | rfl | rfl | rfl | rfl | rfl | rfl | rfl | rfl | rfl | rfl | rfl | rfl | rfl | rfl | rfl
    all_goals
      go_enter Tryz.func13, Tryz.ntmps13
      go_wp2
      go_ret
      exact ⟨rfl, rfl⟩
  · have hk : Tk.isKey l = false := by simpa using hk
    rw [hk]
    have k0 := key_false (k := [97, 103, 114, 101, 101, 109, 101, 110, 116]) hk (by decide)
    have k1 := key_false (k := [105, 110, 112, 117, 116]) hk (by decide)
    have k2 := key_false (k := [112, 97, 115, 116]) hk (by decide)
    have k3 := key_false (k := [115, 99, 97, 108, 101]) hk (by decide)
    have k4 := key_false (k := [114, 117, 108, 101]) hk (by decide)
    have k5 := key_false (k := [112, 97, 121]) hk (by decide)
    have k6 := key_false (k := [102, 114, 111, 109]) hk (by decide)
    have k7 := key_false (k := [114, 111, 117, 110, 100, 101, 100]) hk (by decide)
    have k8 := key_false (k := [116, 111]) hk (by decide)
    have k9 := key_false (k := [105, 102]) hk (by decide)
    have k10 := key_false (k := [116, 104, 101, 110]) hk (by decide)
    have k11 := key_false (k := [101, 108, 115, 101]) hk (by decide)
    have k12 := key_false (k := [97, 110, 100]) hk (by decide)
    have k13 := key_false (k := [111, 114]) hk (by decide)
    have k14 := key_false (k := [110, 111, 116]) hk (by decide)
    have k15 := key_false (k := [116, 114, 117, 101]) hk (by decide)
    have k16 := key_false (k := [102, 97, 108, 115, 101]) hk (by decide)
    have k17 := key_false (k := [109, 105, 110]) hk (by decide)
    have k18 := key_false (k := [109, 97, 120]) hk (by decide)
    have k19 := key_false (k := [114, 111, 117, 110, 100]) hk (by decide)
    have k20 := key_false (k := [97, 118, 101, 114, 97, 103, 101]) hk (by decide)
    have k21 := key_false (k := [108, 97, 115, 116]) hk (by decide)
    have k22 := key_false (k := [109, 111, 110, 101, 121]) hk (by decide)
    have k23 := key_false (k := [104, 111, 117, 114, 115]) hk (by decide)
    have k24 := key_false (k := [100, 97, 121, 115]) hk (by decide)
    have k25 := key_false (k := [110, 117, 109, 98, 101, 114]) hk (by decide)
    have k26 := key_false (k := [98, 111, 111, 108]) hk (by decide)
    have k27 := key_false (k := [100, 111, 119, 110]) hk (by decide)
    have k28 := key_false (k := [117, 112]) hk (by decide)
    have k29 := key_false (k := [102, 108, 111, 111, 114]) hk (by decide)
    have k30 := key_false (k := [99, 101, 105, 108, 105, 110, 103]) hk (by decide)
    have k31 := key_false (k := [104, 97, 108, 102, 95, 117, 112]) hk (by decide)
    have k32 := key_false (k := [104, 97, 108, 102, 95, 100, 111, 119, 110]) hk (by decide)
    have k33 := key_false (k := [104, 97, 108, 102, 95, 101, 118, 101, 110]) hk (by decide)
    clear hk
    go_enter Tryz.func13, Tryz.ntmps13
    go_wp2
    go_ret
    exact ⟨rfl, rfl⟩
end Go.Proofs.YtpdbkbadjgellaaGreatDoor

namespace Go.Proofs.YtpdbkbadjgellaaGreatDoor
open Go.RowKit
attribute [local go_sem] ba_get ba_extract take_rest

set_option maxHeartbeats 1000000 in
theorem isName_any (l : List UInt8) (w : World) (hs : l.length ≤ maxLen) :
    Calls Tryz.prog 11 #[.string ⟨l.toArray⟩] w fun e w' => e = .returned (.bool (Tk.isName l)) ∧ w = w' := by
  have hs' := hs
  unfold maxLen at hs
  by_cases h0 : 0 < l.length
  · by_cases h1 : l.length ≤ 24
    · by_cases h2 : Tk.wordLen l = l.length
      · have hn : Tk.isName l = !Tk.isKey l := by simp [Tk.isName, h0, h1, h2]
        rw [hn]
        have h3 : ((Tk.wordLen l : Int) == l.length) = true := by simp; omega
        clear hn h2
        go_enter Tryz.func11, Tryz.ntmps11
        go_wp2_with ((first | (go_at_call 32; refine (wordLength_any _ _ hs').mono ?_; rintro e w' ⟨rfl, rfl⟩) | (go_at_call 13; refine (isKeyword_any _ _).mono ?_; rintro e w' ⟨rfl, rfl⟩)))
        go_ret
        exact ⟨rfl, rfl⟩
      · have hn : Tk.isName l = false := by simp [Tk.isName, h2]
        rw [hn]
        have h3 : ((Tk.wordLen l : Int) == l.length) = false := by simp; omega
        clear hn h2
        go_enter Tryz.func11, Tryz.ntmps11
        go_wp2_with ((first | (go_at_call 32; refine (wordLength_any _ _ hs').mono ?_; rintro e w' ⟨rfl, rfl⟩) | (go_at_call 13; refine (isKeyword_any _ _).mono ?_; rintro e w' ⟨rfl, rfl⟩)))
        go_ret
        exact ⟨rfl, rfl⟩
    · have hn : Tk.isName l = false := by simp [Tk.isName, h1]
      rw [hn]
      clear hn
      go_enter Tryz.func11, Tryz.ntmps11
      go_wp2_with fail
      go_ret
      exact ⟨rfl, rfl⟩
  · have hn : Tk.isName l = false := by simp [Tk.isName, h0]
    rw [hn]
    clear hn
    go_enter Tryz.func11, Tryz.ntmps11
    go_wp2_with fail
    go_ret
    exact ⟨rfl, rfl⟩

theorem indexByte_mem (l : List UInt8) (c : UInt8) : (l.contains c = true → 0 ≤ Lib.indexByte l c) ∧ (l.contains c = false → Lib.indexByte l c = -1) := by
  induction l with
  | nil => simp [Lib.indexByte]
  | cons b l ih =>
    by_cases hb : b = c
    · subst hb; simp [Lib.indexByte]
    · have h1 : (b == c) = false := by simpa using hb
      have h2 : (c == b) = false := by simpa using fun e => hb e.symm
      simp only [Lib.indexByte, h1, List.contains_cons, h2, Bool.false_or, Bool.false_eq_true, if_false]
      refine ⟨fun h => ?_, fun h => ?_⟩
      · have := ih.1 h
        rw [if_neg (by simp; omega)]
        omega
      · rw [ih.2 h]; rfl

set_option maxHeartbeats 1000000 in
theorem symbolLength_any (l : List UInt8) (w : World) (hs : l.length ≤ maxLen) :
    Calls Tryz.prog 46 #[.string ⟨l.toArray⟩] w fun e w' => e = .returned (.int .i64 (Tk.symLen l)) ∧ w = w' := by
  unfold maxLen at hs
  rcases l with _ | ⟨c, _ | ⟨d, r⟩⟩
  · go_enter Tryz.func46, Tryz.ntmps46
    go_wp2_with fail
    go_ret
    exact ⟨rfl, rfl⟩
  · have hp : Tk.pair c 0 = false := by simp [Tk.pair]
    by_cases hc : Tk.signs.contains c = true
    · have hi : 0 ≤ Lib.indexByte [40, 41, 91, 93, 44, 59, 58, 61, 60, 62, 43, 45, 42, 47] c := (indexByte_mem Tk.signs c).1 hc
      have HC : Hid (Tk.symLen [c] = 1) := by show _ = _; simp only [Tk.symLen, List.headD_nil, hp, hc]; rfl
      clear hc hp
      go_enter Tryz.func46, Tryz.ntmps46
      go_wp2_with ((go_at_call 78; refine (Tryz.strings_IndexByte _ _ _).mono ?_; rintro e w' ⟨rfl, rfl⟩))
      go_ret
      exact ⟨ret_int (by rw [HC.out]; rfl), rfl⟩
    · have hc : Tk.signs.contains c = false := by simpa using hc
      have hi : Lib.indexByte [40, 41, 91, 93, 44, 59, 58, 61, 60, 62, 43, 45, 42, 47] c < 0 := by have := (indexByte_mem Tk.signs c).2 hc; unfold Tk.signs at this; omega
      have HC : Hid (Tk.symLen [c] = 0) := by show _ = _; simp only [Tk.symLen, List.headD_nil, hp, hc]; rfl
      clear hc hp
      go_enter Tryz.func46, Tryz.ntmps46
      go_wp2_with ((go_at_call 78; refine (Tryz.strings_IndexByte _ _ _).mono ?_; rintro e w' ⟨rfl, rfl⟩))
      go_ret
      exact ⟨ret_int (by rw [HC.out]; rfl), rfl⟩
  · by_cases hp : Tk.pair c d = true
    · have h := of_decide_eq_true hp
      rcases h with ⟨rfl, rfl⟩ | ⟨rfl, rfl⟩ | ⟨rfl, rfl⟩
      all_goals
        clear hp
        go_enter Tryz.func46, Tryz.ntmps46
        go_wp2_with fail
        go_ret
        exact ⟨rfl, rfl⟩
    · have hp : Tk.pair c d = false := by simpa using hp
      have h0 := of_decide_eq_false hp
      simp only [not_or, not_and] at h0
      obtain ⟨g1, g2, g3⟩ := h0
      have h1 : ([c, d] == [60, 61]) = false := by simp; exact g1
      have h2 : ([c, d] == [62, 61]) = false := by simp; exact g2
      have h3 : ([c, d] == [60, 62]) = false := by simp; exact g3
      clear g1 g2 g3
      by_cases hc : Tk.signs.contains c = true
      · have hi : 0 ≤ Lib.indexByte [40, 41, 91, 93, 44, 59, 58, 61, 60, 62, 43, 45, 42, 47] c := (indexByte_mem Tk.signs c).1 hc
        have HC : Hid (Tk.symLen (c :: d :: r) = 1) := by show _ = _; simp only [Tk.symLen, List.headD_cons, hp, hc]; rfl
        clear hc hp
        go_enter Tryz.func46, Tryz.ntmps46
        go_wp2_with ((go_at_call 78; refine (Tryz.strings_IndexByte _ _ _).mono ?_; rintro e w' ⟨rfl, rfl⟩))
        go_ret
        exact ⟨ret_int (by rw [HC.out]; rfl), rfl⟩
      · have hc : Tk.signs.contains c = false := by simpa using hc
        have hi : Lib.indexByte [40, 41, 91, 93, 44, 59, 58, 61, 60, 62, 43, 45, 42, 47] c < 0 := by have := (indexByte_mem Tk.signs c).2 hc; unfold Tk.signs at this; omega
        have HC : Hid (Tk.symLen (c :: d :: r) = 0) := by show _ = _; simp only [Tk.symLen, List.headD_cons, hp, hc]; rfl
        clear hc hp
        go_enter Tryz.func46, Tryz.ntmps46
        go_wp2_with ((go_at_call 78; refine (Tryz.strings_IndexByte _ _ _).mono ?_; rintro e w' ⟨rfl, rfl⟩))
        go_ret
        exact ⟨ret_int (by rw [HC.out]; rfl), rfl⟩

/-- The form of a date, place by place. -/
theorem form_get (ps : List Bool) (l : List UInt8) (h : Tk.form ps l = true) : ps.length ≤ l.length ∧ ∀ i (hi : i < l.length) (hp : i < ps.length), (if ps[i] = true then Tk.isDig l[i] else decide (l[i].toNat = 45)) = true := by
  induction ps generalizing l with
  | nil => exact ⟨by simp, fun i _ hp => by simp at hp⟩
  | cons p ps ih =>
    cases l with
    | nil => simp [Tk.form] at h
    | cons c r =>
      rw [Tk.form, Bool.and_eq_true] at h
      obtain ⟨h1, h2⟩ := ih r h.2
      refine ⟨by simp; omega, fun i hi hp => ?_⟩
      cases i with
      | zero => simpa using h.1
      | succ i => simp at hi hp ⊢; simpa using h2 i hi hp
theorem form_of (ps : List Bool) (l : List UInt8) (hl : ps.length ≤ l.length) (h : ∀ i (hi : i < l.length) (hp : i < ps.length), (if ps[i] = true then Tk.isDig l[i] else decide (l[i].toNat = 45)) = true) : Tk.form ps l = true := by
  induction ps generalizing l with
  | nil => rfl
  | cons p ps ih =>
    cases l with
    | nil => simp at hl
    | cons c r =>
      rw [Tk.form, Bool.and_eq_true]
      refine ⟨h 0 (by simp) (by simp), ih r (by simpa using hl) fun i hi hp => ?_⟩
      exact h (i + 1) (by simpa using hi) (by simpa using hp)

def dateAt (l : List UInt8) (i : Nat) : Bool := if i = 4 ∨ i = 7 then decide ((l.getD i 0).toNat = 45) else Tk.isDig (l.getD i 0)
theorem dateForm_iff (l : List UInt8) : Tk.dateForm l = true ↔ 10 ≤ l.length ∧ ∀ i, i < 10 → dateAt l i = true := by
  have key : ∀ i (hi : i < l.length) (hp : i < 10), (if [true, true, true, true, false, true, true, false, true, true][i] = true then Tk.isDig l[i] else decide (l[i].toNat = 45)) = dateAt l i := by
    intro i hi hp
    unfold dateAt
    rw [getD_eq l i hi]
    have : i = 0 ∨ i = 1 ∨ i = 2 ∨ i = 3 ∨ i = 4 ∨ i = 5 ∨ i = 6 ∨ i = 7 ∨ i = 8 ∨ i = 9 := by omega
    rcases this with rfl | rfl | rfl | rfl | rfl | rfl | rfl | rfl | rfl | rfl <;> simp
  constructor
  · intro h
    obtain ⟨h1, h2⟩ := form_get _ _ h
    simp at h1
    exact ⟨h1, fun i hi => by rw [← key i (by omega) hi]; exact h2 i (by omega) (by simpa using hi)⟩
  · rintro ⟨h1, h2⟩
    refine form_of _ _ (by simpa using h1) fun i hi hp => ?_
    have hp' : i < 10 := by simpa using hp
    rw [key i hi hp']; exact h2 i hp'

set_option maxHeartbeats 1000000 in
theorem isDate_any (l : List UInt8) (w : World) (hs : l.length ≤ maxLen) :
    Calls Tryz.prog 84 #[.string ⟨l.toArray⟩] w fun e w' => e = .returned (.bool (Tk.dateForm l)) ∧ w = w' := by
  unfold maxLen at hs
  by_cases h10 : 10 ≤ l.length
  · go_enter Tryz.func84, Tryz.ntmps84
    go_wp2_with fail
    go_loop [7] (fun n => ∃ k : Nat, k ≤ 10 ∧ n = .int .i64 k ∧ Hid (∀ j, j < k → dateAt l j = true)) (fun i => 10 - (intOf i).toNat)
    case atStart => exact ⟨0, Nat.zero_le _, rfl, fun _ h => by omega⟩
    case round =>
      obtain ⟨k, hk, rfl, HA⟩ := hrel
      by_cases hlt : k < 10
      · have hkl : k < l.length := by omega
        by_cases hd : dateAt l k = true
        · have HD := Lib.hid hd
          have hnext : Hid (∀ j, j < k + 1 → dateAt l j = true) := fun j hj => if e : j = k then by subst e; exact HD.out else HA.out j (by omega)
          unfold dateAt at hd
          rw [getD_eq l k hkl] at hd
          by_cases h47 : k = 4 ∨ k = 7
          · rw [if_pos h47] at hd
            have hb : ((l[k].toNat : Int) != 45) = false := by simp at hd ⊢; omega
            clear hd
            rcases h47 with h47 | h47
            · have g1 : ((k : Int) == 4) = true := by simp; omega
              clear h47
              go_wp2_with fail
              go_round
              case rel => exact ⟨k + 1, by omega, by go_num, hnext⟩
              case measure => simp [intOf]; omega
            · have g1 : ((k : Int) == 4) = false := by simp; omega
              have g2 : ((k : Int) == 7) = true := by simp; omega
              clear h47
              go_wp2_with fail
              go_round
              case rel => exact ⟨k + 1, by omega, by go_num, hnext⟩
              case measure => simp [intOf]; omega
          · rw [if_neg h47] at hd
            have g1 : ((k : Int) == 4) = false := by simp; omega
            have g2 : ((k : Int) == 7) = false := by simp; omega
            clear h47
            go_wp2_with ((go_at_call 67; refine (isDigit_any _ _).mono ?_; rintro e w' ⟨rfl, rfl⟩))
            go_round
            case rel => exact ⟨k + 1, by omega, by go_num, hnext⟩
            case measure => simp [intOf]; omega
        · have HF : Hid (Tk.dateForm l = false) := by
            show _ = _
            rw [Bool.eq_false_iff]
            exact fun h => hd (((dateForm_iff l).1 h).2 k hlt)
          have hd : dateAt l k = false := by simpa using hd
          unfold dateAt at hd
          rw [getD_eq l k hkl] at hd
          by_cases h47 : k = 4 ∨ k = 7
          · rw [if_pos h47] at hd
            have hb : ((l[k].toNat : Int) != 45) = true := by simp at hd ⊢; omega
            clear hd
            rcases h47 with h47 | h47
            · have g1 : ((k : Int) == 4) = true := by simp; omega
              clear h47
              go_wp2_with fail
              go_ret
              exact ⟨ret_bool HF.out.symm, rfl⟩
            · have g1 : ((k : Int) == 4) = false := by simp; omega
              have g2 : ((k : Int) == 7) = true := by simp; omega
              clear h47
              go_wp2_with fail
              go_ret
              exact ⟨ret_bool HF.out.symm, rfl⟩
          · rw [if_neg h47] at hd
            have g1 : ((k : Int) == 4) = false := by simp; omega
            have g2 : ((k : Int) == 7) = false := by simp; omega
            clear h47
            go_wp2_with ((go_at_call 67; refine (isDigit_any _ _).mono ?_; rintro e w' ⟨rfl, rfl⟩))
            go_ret
            exact ⟨ret_bool HF.out.symm, rfl⟩
      · have HF : Hid (Tk.dateForm l = true) := (dateForm_iff l).2 ⟨h10, fun i hi => HA.out i (by omega)⟩
        go_wp2_with fail
        go_ret
        exact ⟨ret_bool HF.out.symm, rfl⟩
  · have HF : Hid (Tk.dateForm l = false) := by
      show _ = _
      rw [Bool.eq_false_iff]
      exact fun h => h10 ((dateForm_iff l).1 h).1
    go_enter Tryz.func84, Tryz.ntmps84
    go_wp2_with fail
    go_ret
    exact ⟨ret_bool HF.out.symm, rfl⟩
end Go.Proofs.YtpdbkbadjgellaaGreatDoor

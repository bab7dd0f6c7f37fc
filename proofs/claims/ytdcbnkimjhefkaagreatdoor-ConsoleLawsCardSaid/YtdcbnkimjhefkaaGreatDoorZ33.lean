/-
  The plain functions behind package token: what a text's tokens are. No program in sight.
  Small lemmas for the walks over package token.
  The walk of paygen.Mod.
-/
import Derived.Test.YtdcbnkimjhefkaaGreatDoorProg
import Derived.WalkKit
import Derived.WalkSpells
import Derived.WalkLawsBesides
import Derived.Outline
import Derived.Lib.Hide
import Derived.Deep.DeepFit
import Derived.Deep.QuietTactic
import Derived.BigQuiet
namespace Go.Proofs.YtdcbnkimjhefkaaGreatDoor
namespace Tk

def isDig (c : UInt8) : Bool := decide (48 ≤ c.toNat ∧ c.toNat ≤ 57)
def isLow (c : UInt8) : Bool := decide (97 ≤ c.toNat ∧ c.toNat ≤ 122)
def isWord (c : UInt8) : Bool := isLow c || isDig c || decide (c.toNat = 95)
def isBlank (c : UInt8) : Bool := decide (c.toNat = 32 ∨ c.toNat = 9 ∨ c.toNat = 10 ∨ c.toNat = 13)

/-- The number of elements at the head that meet a test. -/
def lead (p : UInt8 → Bool) : List UInt8 → Nat
  | [] => 0
  | c :: r => if p c = true then lead p r + 1 else 0

theorem lead_le (p : UInt8 → Bool) (l : List UInt8) : lead p l ≤ l.length := by
  induction l with
  | nil => simp [lead]
  | cons c r ih => unfold lead; split <;> simp <;> omega

theorem lead_all (p : UInt8 → Bool) (l : List UInt8) (j : Nat) (hj : j < lead p l) (h : j < l.length) : p l[j] = true := by
  induction l generalizing j with
  | nil => simp at h
  | cons c r ih =>
    unfold lead at hj
    split at hj
    · rename_i hc
      cases j with
      | zero => simpa using hc
      | succ j => simp at h ⊢; exact ih j (by omega) h
    · omega

theorem lead_stop (p : UInt8 → Bool) (l : List UInt8) (h : lead p l < l.length) : p l[lead p l] = false := by
  induction l with
  | nil => simp at h
  | cons c r ih =>
    by_cases hc : p c = true
    · have e : lead p (c :: r) = lead p r + 1 := by simp [lead, hc]
      simp only [e, List.length_cons] at h ⊢
      simp only [List.getElem_cons_succ]
      exact ih (by omega)
    · have e : lead p (c :: r) = 0 := by simp [lead, hc]
      simp only [e]
      simpa using hc

/-- A count that stops rightly is the count. -/
theorem lead_eq (p : UInt8 → Bool) (l : List UInt8) (k : Nat) (hk : k ≤ l.length) (ha : ∀ j (h : j < l.length), j < k → p l[j] = true) (hs : ∀ h : k < l.length, p l[k] = false) : lead p l = k := by
  have h1 := lead_le p l
  rcases Nat.lt_trichotomy (lead p l) k with h | h | h
  · have := lead_stop p l (by omega)
    rw [ha _ _ h] at this
    cases this
  · exact h
  · have := lead_all p l k h (by omega)
    rw [hs (by omega)] at this
    cases this

def digs (l : List UInt8) : Nat := lead isDig l

/-- The keywords. -/
def keywords : List (List UInt8) := [[97, 103, 114, 101, 101, 109, 101, 110, 116], [105, 110, 112, 117, 116], [112, 97, 115, 116], [115, 99, 97, 108, 101], [114, 117, 108, 101], [112, 97, 121], [102, 114, 111, 109], [114, 111, 117, 110, 100, 101, 100], [116, 111], [105, 102], [116, 104, 101, 110], [101, 108, 115, 101], [97, 110, 100], [111, 114], [110, 111, 116], [116, 114, 117, 101], [102, 97, 108, 115, 101], [109, 105, 110], [109, 97, 120], [114, 111, 117, 110, 100], [97, 118, 101, 114, 97, 103, 101], [108, 97, 115, 116], [109, 111, 110, 101, 121], [104, 111, 117, 114, 115], [100, 97, 121, 115], [110, 117, 109, 98, 101, 114], [98, 111, 111, 108], [100, 111, 119, 110], [117, 112], [102, 108, 111, 111, 114], [99, 101, 105, 108, 105, 110, 103], [104, 97, 108, 102, 95, 117, 112], [104, 97, 108, 102, 95, 100, 111, 119, 110], [104, 97, 108, 102, 95, 101, 118, 101, 110]]
def isKey (l : List UInt8) : Bool := keywords.contains l
def wordLen : List UInt8 → Nat
  | [] => 0
  | c :: r => if isLow c = true then lead isWord r + 1 else 0
def isName (l : List UInt8) : Bool := decide (0 < l.length) && decide (l.length ≤ 24) && decide (wordLen l = l.length) && !isKey l

/-- The symbols of one byte, and those of two. -/
def signs : List UInt8 := [40, 41, 91, 93, 44, 59, 58, 61, 60, 62, 43, 45, 42, 47]
def pair (c d : UInt8) : Bool := decide (c = 60 ∧ d = 61 ∨ c = 62 ∧ d = 61 ∨ c = 60 ∧ d = 62)
def symLen : List UInt8 → Nat
  | [] => 0
  | c :: r => if pair c (r.headD 0) = true then 2 else if signs.contains c = true then 1 else 0

/-- The form of a date: digits at the places 'true', hyphens at the others. -/
def form : List Bool → List UInt8 → Bool
  | [], _ => true
  | _ :: _, [] => false
  | p :: ps, c :: r => (if p = true then isDig c else decide (c.toNat = 45)) && form ps r
def dateForm (l : List UInt8) : Bool := form [true, true, true, true, false, true, true, false, true, true] l

/-- The number that digits write. -/
def val (l : List UInt8) : Nat := l.foldl (fun n c => n * 10 + (c.toNat - 48)) 0

/-- The calendar. -/
def leapB (y : Int) : Bool := decide (y % 4 = 0 ∧ (y % 100 ≠ 0 ∨ y % 400 = 0))
def mlen (y m : Int) : Int := if m = 2 then (if leapB y = true then 29 else 28) else if m = 4 ∨ m = 6 ∨ m = 9 ∨ m = 11 then 30 else 31
def leapsN (y : Int) : Int := y / 4 - y / 100 + y / 400
def begn (y : Int) : Int := 365 * (y - 1970) + leapsN (y - 1) - 477
/-- The days of the first k months of a year. -/
def cumM (y : Int) : Nat → Int
  | 0 => 0
  | k + 1 => cumM y k + mlen y (k + 1)
def dayNo (y m d : Int) : Int := begn y + cumM y (m - 1).toNat + d - 1
def dayOK (y m d : Int) : Bool := decide (1970 ≤ y ∧ y ≤ 2199 ∧ 1 ≤ m ∧ m ≤ 12 ∧ 1 ≤ d ∧ d ≤ mlen y m)
def dateY (l : List UInt8) : Nat := val (l.take 4)
def dateM (l : List UInt8) : Nat := val ((l.drop 5).take 2)
def dateD (l : List UInt8) : Nat := val ((l.drop 8).take 2)
/-- The day that the ten bytes of a date's form name. -/
def dayOf (l : List UInt8) : Option Int :=
  if dayOK (dateY l) (dateM l) (dateD l) = true then some (dayNo (dateY l) (dateM l) (dateD l)) else none

/-- A fraction in lowest terms, if it fits. -/
def newR (n d : Nat) : Option (Nat × Nat) :=
  if n / Nat.gcd n d > 1000000000000 ∨ d / Nat.gcd n d > 1000000 then none else some (n / Nat.gcd n d, d / Nat.gcd n d)

structure Tok where
  kind : Int := 0
  text : List UInt8 := []
  num : Int := 0
  den : Int := 0
  day : Int := 0
  place : Int := 0

/-- A number at the beginning of a text: how many digits, is there a point, a percent sign. -/
def hasFrac (l : List UInt8) : Bool := decide ((l.getD (digs l) 0).toNat = 46) && isDig (l.getD (digs l + 1) 0)
def frac (l : List UInt8) : Nat := if hasFrac l = true then digs (l.drop (digs l + 1)) else 0
def numEnd (l : List UInt8) : Nat := if hasFrac l = true then digs l + (1 + frac l) else digs l
def pct (l : List UInt8) : Bool := decide ((l.getD (numEnd l) 0).toNat = 37)
def numLen (l : List UInt8) : Nat := if pct l = true then numEnd l + 1 else numEnd l
def most (l : List UInt8) : Nat := if pct l = true then 4 else 6
def den0 (l : List UInt8) : Nat := if pct l = true then 100 else 1
def badNum (l : List UInt8) : Bool :=
  decide (digs l > 1) && decide ((l.getD 0 0).toNat = 48) || decide (frac l > most l) || (isLow (l.getD (numLen l) 0) || decide ((l.getD (numLen l) 0).toNat = 95))
def numN (l : List UInt8) : Nat := val (l.take (digs l) ++ (l.drop (digs l + 1)).take (frac l))
def numD (l : List UInt8) : Nat := den0 l * 10 ^ frac l
def readNum (l : List UInt8) : Except Int (Nat × Nat × Nat) :=
  if badNum l = true then .error 6 else match newR (numN l) (numD l) with
    | none => .error 4
    | some (a, b) => .ok (a, b, numLen l)

/-- The token at the beginning of a text. -/
def readTok (l : List UInt8) : Except Int (Tok × Nat) :=
  if dateForm l = true then match dayOf l with
    | none => .error 6
    | some d => .ok ({ kind := 3, day := d }, 10)
  else if isDig (l.headD 0) = true then match readNum l with
    | .error e => .error e
    | .ok (a, b, n) => .ok ({ kind := 2, num := a, den := b }, n)
  else if isLow (l.headD 0) = true then
    if (isKey (l.take (wordLen l)) || isName (l.take (wordLen l))) = true then .ok ({ kind := 1, text := l.take (wordLen l) }, wordLen l) else .error 6
  else if symLen l = 0 then .error 6 else .ok ({ kind := 4, text := l.take (symLen l) }, symLen l)

/-- The bytes of blanks and comments at the beginning of a text; 'true': inside a comment. -/
def skipN : Bool → List UInt8 → Nat
  | _, [] => 0
  | false, c :: r => if isBlank c = true then skipN false r + 1 else if c.toNat = 35 then skipN true r + 1 else 0
  | true, c :: r => if c.toNat = 10 then skipN false r + 1 else skipN true r + 1

/-- The tokens of a text that begins at a place, or the place of the first error and the error. -/
def scanF : Nat → Nat → List UInt8 → Except (Nat × Int) (List Tok)
  | 0, _, _ => .ok []
  | f + 1, at_, l =>
    if l.length ≤ skipN false l then .ok [] else
    match readTok (l.drop (skipN false l)) with
    | .error e => .error (at_ + skipN false l, e)
    | .ok (t, n) =>
      match scanF f (at_ + skipN false l + n) ((l.drop (skipN false l)).drop n) with
      | .error e => .error e
      | .ok ts => .ok ({ t with place := at_ + skipN false l } :: ts)

end Tk
end Go.Proofs.YtdcbnkimjhefkaaGreatDoor

namespace Go.Proofs.YtdcbnkimjhefkaaGreatDoor
open Go.RowKit

theorem ret_int {k : IntKind} {a b : Int} (h : a = b) : Ending.returned (.int k a) = .returned (.int k b) := by rw [h]
theorem ret_bool {a b : Bool} (h : a = b) : Ending.returned (.bool a) = .returned (.bool b) := by rw [h]
theorem ret_str {a b : List UInt8} (h : a = b) : Ending.returned (.string ⟨a.toArray⟩) = .returned (.string ⟨b.toArray⟩) := by rw [h]
/-- A string's bytes, as the list has them. -/
theorem ba_get (l : List UInt8) (k : Nat) (h : k < (⟨l.toArray⟩ : ByteArray).size) : (⟨l.toArray⟩ : ByteArray)[k] = l[k]'h := rfl
/-- A cut of a string, as the list has it. -/
theorem ba_extract (l : List UInt8) (a b : Nat) : ByteArray.extract ⟨l.toArray⟩ a b = ⟨((l.drop a).take (b - a)).toArray⟩ := by
  apply ByteArray.ext
  simp [List.extract_eq_take_drop, List.extract_toArray]
/-- Two strings joined, as lists. -/
theorem ba_append (a b : List UInt8) : (⟨a.toArray⟩ ++ ⟨b.toArray⟩ : ByteArray) = ⟨(a ++ b).toArray⟩ := by
  apply ByteArray.ext
  simp
theorem take_rest (l : List UInt8) (a : Nat) : (l.drop a).take (l.length - a) = l.drop a := List.take_of_length_le (by simp)
theorem belowN {B : Nat} {a w : World} (h : Below B a w) (n : Nat) : Below B a (w.drewN n) := ⟨h.os, h.tape, h.output, h.size, h.block⟩
theorem quiet_left {P : Program} {f : FuncId} {args : Array Value} {w : World} {n : Nat} {v : Value}
    (h : Calls P f args (w.drewN n) fun e w' => e = .returned v ∧ w.drewN n = w') : Calls P f args (w.drewN n) fun e w'' => e = .returned v ∧ ∃ m, w'' = w.drewN m :=
  h.mono fun _ _ ⟨he, hm⟩ => ⟨he, n, hm.symm⟩
/-- What is owned stays owned behind a call that leaves all old memory alone. -/
theorem owns_below {w w' : World} {base : Nat} {e : TypeId} {size : Nat} {v : Value} {n : Nat} {xs : List Value} (h : w.ownsRow base e size v n xs) (hb : Below w.heap.size w w') : w'.ownsRow base e size v n xs := by
  refine h.kept (row := none) ⟨hb.os, hb.tape, hb.output, hb.size, fun k hk _ => hb.block k hk⟩ ?_
  cases hv : v.ownBlock with
  | none => exact .inl rfl
  | some g => exact .inr (by simp)
theorem getD_eq (l : List UInt8) (k : Nat) (h : k < l.length) : l.getD k 0 = l[k] := by
  simp [List.getD_eq_getElem?_getD, h]
end Go.Proofs.YtdcbnkimjhefkaaGreatDoor

namespace Go.Proofs.YtdcbnkimjhefkaaGreatDoor
open Go.RowKit

set_option maxHeartbeats 1000000 in
theorem pmod_any (v n : Int) (w : World) (h0 : -9223372036854775808 ≤ v) (h1 : v ≤ 9223372036854775807) (hn : 1 ≤ n) (hn2 : n ≤ 2000000000000) :
    Calls Tryz.prog 10 #[.int .i64 v, .int .i64 n] w fun e w' => e = .returned (.int .i64 (v % n)) ∧ w = w' := by
  have hm0 := Int.emod_nonneg v (show n ≠ 0 by omega)
  have hm1 := Int.emod_lt_of_pos v (show 0 < n by omega)
  have gn : (n == 0) = false := by simp; omega
  by_cases hv : 0 ≤ v
  · go_enter Tryz.func10, Tryz.ntmps10
    go_wp2_with fail
    go_ret
    exact ⟨rfl, rfl⟩
  · by_cases hd : n ∣ v
    · have ht : v.tmod n = 0 := Int.tmod_eq_zero_of_dvd hd
      have HR : Hid (v % n = 0) := Int.emod_eq_zero_of_dvd hd
      clear hd
      go_enter Tryz.func10, Tryz.ntmps10
      go_wp2_with fail
      go_ret
      exact ⟨ret_int HR.out.symm, rfl⟩
    · obtain ⟨r, hr⟩ : ∃ r, v % n = r := ⟨_, rfl⟩
      have ht : v.tmod n = r - n := by
        rw [Int.tmod_eq_emod, if_neg (by omega), hr]
        omega
      rw [hr] at hm0 hm1
      have HR := Lib.hid hr
      clear hd hr
      go_enter Tryz.func10, Tryz.ntmps10
      go_wp2_with fail
      go_ret
      exact ⟨ret_int (by rw [HR.out]), rfl⟩
end Go.Proofs.YtdcbnkimjhefkaaGreatDoor

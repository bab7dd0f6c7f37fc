/-
 The walks of package token's IsName, symbolLength, isDate, skip.
 The walks of the reference's IsName (payrollref17).
 The reference's Decimal, for every int.
 Lines and Words of the reference (payrollref34).
 Commands and forms of the console, in plain words.
 Regions that draw their order, over frames that are functions; appends.
-/
import Derived.Test.YtdcbnkimjhefkaaGreatDoorU14
import Derived.Test.YtdcbnkimjhefkaaGreatDoorUSh
import Derived.Lib.SlBytesConst
import Derived.Laws.BytesArg
import Derived.Lib.ItoaLen
import Derived.OwnWalk
import Derived.Test.YtdcbnkimjhefkaaGreatDoorU13
import Derived.Test.YtdcbnkimjhefkaaGreatDoorU09
namespace Go.Proofs.YtdcbnkimjhefkaaGreatDoor
open Go.RowKit
attribute [local go_sem] ba_get ba_extract take_rest

set_option maxHeartbeats 1000000 in
theorem isName_any (l : List UInt8) (w : World) (hs : l.length ≤ maxLen) :
  Calls Tryz.prog 45 #[.string ⟨l.toArray⟩] w fun e w' => e = .returned (.bool (Tk.isName l)) ∧ w = w' := by
 have hs' := hs
 unfold maxLen at hs
 by_cases h0 : 0 < l.length
 ·by_cases h1 : l.length ≤ 24
  ·by_cases h2 : Tk.wordLen l = l.length
   ·have hn : Tk.isName l = !Tk.isKey l := by simp [Tk.isName, h0, h1, h2]
    rw [hn]
    have h3 : ((Tk.wordLen l : Int) == l.length) = true := by simp; omega
    clear hn h2
    go_enter Tryz.func45, Tryz.ntmps45
    go_wp2_with ((first | (go_at_call 77; refine (wordLength_any _ _ hs').mono ?_; rintro e w' ⟨rfl, rfl⟩) | (go_at_call 78; refine (isKeyword_any _ _).mono ?_; rintro e w' ⟨rfl, rfl⟩)))
    go_ret
    exact ⟨rfl, rfl⟩
   ·have hn : Tk.isName l = false := by simp [Tk.isName, h2]
    rw [hn]
    have h3 : ((Tk.wordLen l : Int) == l.length) = false := by simp; omega
    clear hn h2
    go_enter Tryz.func45, Tryz.ntmps45
    go_wp2_with ((first | (go_at_call 77; refine (wordLength_any _ _ hs').mono ?_; rintro e w' ⟨rfl, rfl⟩) | (go_at_call 78; refine (isKeyword_any _ _).mono ?_; rintro e w' ⟨rfl, rfl⟩)))
    go_ret
    exact ⟨rfl, rfl⟩
  ·have hn : Tk.isName l = false := by simp [Tk.isName, h1]
   rw [hn]
   clear hn
   go_enter Tryz.func45, Tryz.ntmps45
   go_wp2_with fail
   go_ret
   exact ⟨rfl, rfl⟩
 ·have hn : Tk.isName l = false := by simp [Tk.isName, h0]
  rw [hn]
  clear hn
  go_enter Tryz.func45, Tryz.ntmps45
  go_wp2_with fail
  go_ret
  exact ⟨rfl, rfl⟩

end Go.Proofs.YtdcbnkimjhefkaaGreatDoor

namespace Go.Proofs.YtdcbnkimjhefkaaGreatDoor
open Go.RowKit
attribute [local go_sem] ba_get ba_extract take_rest

theorem rdigit_any (c : UInt8) (w : World) :
  Calls Tryz.prog 171 #[.int .u8 c.toNat] w fun e w' => e = .returned (.bool (Tk.isDig c)) ∧ w = w' := by
 go_enter Tryz.func171, Tryz.ntmps171
 go_wp2
 all_goals
  go_ret
  refine ⟨ret_bool ?_, rfl⟩
  unfold Tk.isDig
  rw [Bool.eq_iff_iff]
  simp
  omega

theorem rlower_any (c : UInt8) (w : World) :
  Calls Tryz.prog 170 #[.int .u8 c.toNat] w fun e w' => e = .returned (.bool (Tk.isLow c)) ∧ w = w' := by
 go_enter Tryz.func170, Tryz.ntmps170
 go_wp2
 all_goals
  go_ret
  refine ⟨ret_bool ?_, rfl⟩
  unfold Tk.isLow
  rw [Bool.eq_iff_iff]
  simp
  omega

theorem wordLen_lead (c : UInt8) (r : List UInt8) (h : Tk.isLow c = true) : Tk.wordLen (c :: r) = Tk.lead Tk.isWord (c :: r) := by
 have : Tk.isWord c = true := by simp [Tk.isWord, h]
 simp only [Tk.wordLen, h, if_true, Tk.lead, this]
theorem drop_consR (l : List UInt8) (p : Nat) (h : p < l.length) : l.drop p = l[p] :: l.drop (p + 1) := List.drop_eq_getElem_cons h

set_option maxHeartbeats 1000000 in
theorem rword_any (l : List UInt8) (p : Nat) (w : World) (hs : l.length ≤ maxLen) (hp : p ≤ l.length) :
  Calls Tryz.prog 116 #[.string ⟨l.toArray⟩, .int .i64 p] w fun e w' => e = .returned (.int .i64 (p + Tk.wordLen (l.drop p) : Nat)) ∧ w = w' := by
 unfold maxLen at hs
 by_cases hlt : p < l.length
 ·by_cases hc : Tk.isLow l[p] = true
  ·have HW : Hid (Tk.wordLen (l.drop p) = Tk.lead Tk.isWord (l.drop p)) := by show _ = _; rw [drop_consR l p hlt, wordLen_lead _ _ hc]
   have HC := Lib.hid hc
   clear hc
   have g0 : decide (l.length ≤ p) = false := by simp; omega
   go_enter Tryz.func116, Tryz.ntmps116
   go_wp2_with fail
   refine (rlower_any _ _).mono ?_
   rintro e w' ⟨rfl, rfl⟩
   rw [HC.out]
   go_wp2_with fail
   clear g0
   go_loop [1] (fun n => ∃ k : Nat, p + k ≤ l.length ∧ n = .int .i64 (p + k : Nat) ∧ Hid (∀ j (h : p + j < l.length), j < k → Tk.isWord l[p + j] = true)) (fun i => l.length - (intOf i).toNat)
   case atStart => exact ⟨0, by omega, rfl, fun _ _ h => by omega⟩
   case round =>
    obtain ⟨k, hk, rfl, HA⟩ := hrel
    have HE : Hid (∀ (hs : ∀ h : p + k < l.length, Tk.isWord l[p + k] = false), Tk.wordLen (l.drop p) = k) := by
     show ∀ _, _
     intro hs
     rw [HW.out]
     refine Tk.lead_eq _ _ k (by simp; omega) (fun j h hj => ?_) (fun h => ?_)
     ·rw [List.getElem_drop]; exact HA.out j (by simp at h; omega) hj
     ·rw [List.getElem_drop]; exact hs (by simp at h; omega)
    by_cases hlk : p + k < l.length
    ·by_cases hd : Tk.isWord l[p + k] = true
     ·have HD := Lib.hid hd
      have HN : Hid (∀ j (h : p + j < l.length), j < k + 1 → Tk.isWord l[p + j] = true) := fun j h hj => if e : j = k then by subst e; exact HD.out else HA.out j h (by omega)
      rcases (isWord_cases _).1 hd with h1 | ⟨h1, h2⟩ | ⟨h1, h2, h3⟩
      all_goals clear hd
      ·go_wp2_with ((first | (go_at_call 170; refine (rlower_any _ _).mono ?_; rintro e w' ⟨rfl, rfl⟩) | (go_at_call 171; refine (rdigit_any _ _).mono ?_; rintro e w' ⟨rfl, rfl⟩)))
       go_round
       case rel => first | exact ⟨k + 1, by omega, by go_num, HN⟩ | ((repeat apply Exists.intro); exact ⟨⟨k + 1, by omega, by go_num, HN⟩, rfl⟩)
       case measure => simp [intOf]; omega
      ·go_wp2_with ((first | (go_at_call 170; refine (rlower_any _ _).mono ?_; rintro e w' ⟨rfl, rfl⟩) | (go_at_call 171; refine (rdigit_any _ _).mono ?_; rintro e w' ⟨rfl, rfl⟩)))
       go_round
       case rel => first | exact ⟨k + 1, by omega, by go_num, HN⟩ | ((repeat apply Exists.intro); exact ⟨⟨k + 1, by omega, by go_num, HN⟩, rfl⟩)
       case measure => simp [intOf]; omega
      ·have h4 : ((l[p + k].toNat : Int) == 95) = true := by simp; omega
       clear h3
       go_wp2_with ((first | (go_at_call 170; refine (rlower_any _ _).mono ?_; rintro e w' ⟨rfl, rfl⟩) | (go_at_call 171; refine (rdigit_any _ _).mono ?_; rintro e w' ⟨rfl, rfl⟩)))
       go_round
       case rel => first | exact ⟨k + 1, by omega, by go_num, HN⟩ | ((repeat apply Exists.intro); exact ⟨⟨k + 1, by omega, by go_num, HN⟩, rfl⟩)
       case measure => simp [intOf]; omega
     ·have hd : Tk.isWord l[p + k] = false := by simpa using hd
      have HF : Hid (Tk.wordLen (l.drop p) = k) := HE.out (fun _ => hd)
      obtain ⟨h1, h2, h4⟩ := isWord_false hd
      clear hd
      go_wp2_with ((first | (go_at_call 170; refine (rlower_any _ _).mono ?_; rintro e w' ⟨rfl, rfl⟩) | (go_at_call 171; refine (rdigit_any _ _).mono ?_; rintro e w' ⟨rfl, rfl⟩)))
      go_ret
      exact ⟨ret_int (by rw [HF.out]; omega), rfl⟩
    ·have HF : Hid (Tk.wordLen (l.drop p) = k) := HE.out (fun h => absurd h hlk)
     go_wp2_with fail
     go_ret
     exact ⟨ret_int (by rw [HF.out]), rfl⟩
  ·have hc : Tk.isLow l[p] = false := by simpa using hc
   have HF : Hid (Tk.wordLen (l.drop p) = 0) := by show _ = _; rw [drop_consR l p hlt]; simp [Tk.wordLen, hc]
   have HC := Lib.hid hc
   clear hc
   go_enter Tryz.func116, Tryz.ntmps116
   go_wp2_with fail
   refine (rlower_any _ _).mono ?_
   rintro e w' ⟨rfl, rfl⟩
   rw [HC.out]
   go_wp2_with fail
   go_ret
   exact ⟨ret_int (by rw [HF.out]; rfl), rfl⟩
 ·have HF : Hid (Tk.wordLen (l.drop p) = 0) := by show _ = _; rw [List.drop_of_length_le (by omega)]; rfl
  go_enter Tryz.func116, Tryz.ntmps116
  go_wp2_with fail
  go_ret
  exact ⟨ret_int (by rw [HF.out]; rfl), rfl⟩

theorem keywords_len : Tk.keywords.length = 34 := by decide
theorem keyBlock (w : World) (k : Nat) (hk : k < 34) : (w.alloc (.cells (Tk.keywords.map fun x => Value.string ⟨x.toArray⟩).toArray 9)).cell? ⟨w.heap.size, k, none⟩ = some (.string ⟨(Tk.keywords[k]'(by rw [keywords_len]; exact hk)).toArray⟩) := by
 rw [Lib.cell_of_heap (heap_alloc_new w _), List.getElem?_toArray, List.getElem?_map, List.getElem?_eq_getElem (by rw [keywords_len]; exact hk)]
 rfl

set_option maxHeartbeats 1000000 in
set_option maxRecDepth 100000 in
theorem risKeyword_any (l : List UInt8) (w : World) :
  Calls Tryz.prog 117 #[.string ⟨l.toArray⟩] w fun e w' => e = .returned (.bool (Tk.isKey l)) ∧ Below w.heap.size w w' := by
 go_enter Tryz.func117, Tryz.ntmps117
 go_wp2_with fail
 change Code.wp _ _ _ _ (w.alloc (.cells (Tk.keywords.map fun x => Value.string ⟨x.toArray⟩).toArray 9))
 have HC := Lib.hid (keyBlock w)
 have hB : Below w.heap.size w (w.alloc (.cells (Tk.keywords.map fun x => Value.string ⟨x.toArray⟩).toArray 9)) := (Below.refl _ _).alloc (Nat.le_refl _) _
 generalize w.alloc (.cells (Tk.keywords.map fun x => Value.string ⟨x.toArray⟩).toArray 9) = w1 at *
 go_loop [4] (fun i => ∃ k : Nat, k ≤ 34 ∧ i = .int .i64 k ∧ Hid (∀ j (h : j < Tk.keywords.length), j < k → Tk.keywords[j] ≠ l)) (fun i => 34 - (intOf i).toNat)
 case atStart => exact ⟨0, Nat.zero_le _, rfl, fun _ _ h => by omega⟩
 case round =>
  obtain ⟨k, hk, rfl, HA⟩ := hrel
  by_cases hlt : k < 34
  ·have hc := HC.out k hlt
   have hkl : k < Tk.keywords.length := by rw [keywords_len]; exact hlt
   by_cases he : Tk.keywords[k] = l
   ·have HF : Hid (Tk.isKey l = true) := by show _ = _; unfold Tk.isKey; rw [List.contains_iff_mem, ← he]; exact List.getElem_mem _
    rw [he] at hc
    clear he
    go_wp2_with fail
    go_ret
    exact ⟨ret_bool HF.out.symm, hB⟩
   ·have HN : Hid (∀ j (h : j < Tk.keywords.length), j < k + 1 → Tk.keywords[j] ≠ l) := fun j h hj => if e : j = k then by subst e; exact he else HA.out j h (by omega)
    generalize Tk.keywords[k] = x at *
    have g : (x == l) = false := by simpa using he
    clear he
    go_wp2_with fail
    go_round
    case rel => exact ⟨k + 1, by omega, by go_num, HN⟩
    case measure => simp [intOf]; omega
  ·have HF : Hid (Tk.isKey l = false) := by
    show _ = _
    unfold Tk.isKey
    rw [Bool.eq_false_iff]
    intro h
    obtain ⟨j, hj, e⟩ := List.getElem_of_mem (List.contains_iff_mem.1 h)
    exact HA.out j hj (by rw [keywords_len] at hj; omega) e
   go_wp2_with fail
   go_ret
   exact ⟨ret_bool HF.out.symm, hB⟩

set_option maxHeartbeats 1000000 in
theorem risName_any (l : List UInt8) (w : World) (hs : l.length ≤ maxLen) :
  Calls Tryz.prog 70 #[.string ⟨l.toArray⟩] w fun e w' => e = .returned (.bool (Tk.isName l)) ∧ Below w.heap.size w w' := by
 have hs' := hs
 unfold maxLen at hs
 cases l with
 | nil =>
  go_enter Tryz.func70, Tryz.ntmps70
  go_wp2_with fail
  go_ret
  exact ⟨rfl, Below.refl _ _⟩
 | cons c r =>
  by_cases h1 : (c :: r).length ≤ 24
  ·by_cases h2 : Tk.wordLen (c :: r) = (c :: r).length
   ·have HN : Hid (Tk.isName (c :: r) = !Tk.isKey (c :: r)) := by show _ = _; simp [Tk.isName, h2]; intro _; simpa using h1
    have H2 := Lib.hid h2
    simp only [List.length_cons] at h1
    clear h2
    go_enter Tryz.func70, Tryz.ntmps70
    go_wp2_with fail
    refine (rword_any (c :: r) 0 _ hs' (Nat.zero_le _)).mono ?_
    rintro e w' ⟨rfl, rfl⟩
    rw [List.drop_zero, H2.out]
    simp only [Nat.zero_add, List.length_cons]
    go_wp2_with fail
    refine (risKeyword_any _ _).mono ?_
    rintro e w' ⟨rfl, hb⟩
    go_wp2_with fail
    go_ret
    exact ⟨ret_bool HN.out.symm, hb⟩
   ·have HN : Hid (Tk.isName (c :: r) = false) := by show _ = _; simp only [Tk.isName, h2]; simp
    have h3 : ((Tk.wordLen (c :: r) : Int) == (r.length : Int) + 1) = false := by simp at h2 ⊢; omega
    simp only [List.length_cons] at h1
    clear h2
    generalize hW : Tk.wordLen (c :: r) = W at *
    have HW := Lib.hid hW
    clear hW
    go_enter Tryz.func70, Tryz.ntmps70
    go_wp2_with fail
    refine (rword_any (c :: r) 0 _ hs' (Nat.zero_le _)).mono ?_
    rintro e w' ⟨rfl, rfl⟩
    rw [List.drop_zero, HW.out]
    simp only [Nat.zero_add]
    go_wp2_with fail
    go_ret
    exact ⟨ret_bool HN.out.symm, Below.refl _ _⟩
  ·have HN : Hid (Tk.isName (c :: r) = false) := by show _ = _; simp only [Tk.isName, h1]; simp
   simp only [List.length_cons] at h1
   go_enter Tryz.func70, Tryz.ntmps70
   go_wp2_with fail
   go_ret
   exact ⟨ret_bool HN.out.symm, Below.refl _ _⟩

end Go.Proofs.YtdcbnkimjhefkaaGreatDoor

namespace Go.Proofs.YtdcbnkimjhefkaaGreatDoor
open Go.RowKit
theorem ret_intC {a b : Int} (h : a = b) : Ending.returned (.int .u64 a) = .returned (.int .u64 b) := by rw [h]
def intOfC : Value → Int
 | .int _ n => n
 | _ => 0
theorem sizeAll_any (n : Int) (w : World) (h0 : -9223372036854775808 ≤ n) (h1 : n ≤ 9223372036854775807) :
  Calls Tryz.prog 109 #[.int .i64 n] w fun e w' => e = .returned (.int .u64 (n.natAbs : Nat)) ∧ w = w' := by
 by_cases hn : n < 0
 ·go_enter Tryz.func109, Tryz.ntmps109
  go_wp2_with fail
  go_ret
  refine ⟨ret_intC ?_, rfl⟩
  first | omega | (simp only [IntKind.wrap_u64]; omega)
 ·go_enter Tryz.func109, Tryz.ntmps109
  go_wp2_with fail
  go_ret
  exact ⟨ret_intC (by first | omega | (simp only [IntKind.wrap_u64]; omega)), rfl⟩
theorem conv_one (w : World) (n : Int) : (convert 68 9 (.slice (some ⟨w.heap.size, 0, none⟩) 1 1)).run Tryz.prog (w.alloc (.cells #[.int .u8 n] 5)) = .ok (.string ⟨[UInt8.ofNat n.toNat].toArray⟩) (w.alloc (.cells #[.int .u8 n] 5)) :=
 run_convert_bytes_arg _ 68 5 Tryz.underlying68 Tryz.underlying5 w.heap.size 0 1 1 [n] rfl (fun i hi => by
  obtain rfl : i = 0 := by omega
  simp) 9 Tryz.underlying9
attribute [local go_sem] ba_get ba_extract take_rest ba_append conv_one

def DecPre (D : List UInt8) (m : Nat) (s : List UInt8) : Prop := (s = [] ∧ D = Lib.decDigits m) ∨ (s ≠ [] ∧ ((m = 0 ∧ s = D) ∨ (0 < m ∧ Lib.decDigits m ++ s = D)))
theorem dec_last (m : Nat) : Lib.decDigits m = (if m < 10 then [] else Lib.decDigits (m / 10)) ++ [UInt8.ofNat (48 + m % 10)] := by
 rw [Lib.decDigits]
 split
 ·rename_i h; rw [Nat.mod_eq_of_lt h]; rfl
 ·rfl
theorem DecPre.next {D : List UInt8} {m : Nat} {s : List UInt8} (h : DecPre D m s) (hc : 0 < m ∨ s = []) : DecPre D (m / 10) (UInt8.ofNat (48 + m % 10) :: s) := by
 have hD : Lib.decDigits m ++ s = D := by
  rcases h with ⟨rfl, rfl⟩ | ⟨h1, ⟨h2, h3⟩ | ⟨_, h2⟩⟩
  ·simp
  ·rcases hc with hc | hc
   ·omega
   ·exact (h1 hc).elim
  ·exact h2
 rw [dec_last m, List.append_assoc] at hD
 refine .inr ⟨by simp, ?_⟩
 by_cases h10 : m < 10
 ·rw [if_pos h10] at hD
  exact .inl ⟨by omega, hD⟩
 ·rw [if_neg h10] at hD
  exact .inr ⟨by omega, hD⟩
theorem DecPre.len {n : Int} {m : Nat} {s : List UInt8} (h : DecPre (Lib.decDigits n.natAbs) m s) (h0 : -9223372036854775808 ≤ n) (h1 : n ≤ 9223372036854775807) : s.length ≤ 22 := by
 have hl : (Lib.decDigits n.natAbs).length ≤ 21 := by
  rw [Lib.decDigits_length]
  have := Lib.nDigits_le20 n.natAbs (by omega)
  omega
 rcases h with ⟨rfl, _⟩ | ⟨_, ⟨_, rfl⟩ | ⟨_, e⟩⟩
 ·simp
 ·omega
 ·have := congrArg List.length e
  rw [List.length_append] at this
  omega
theorem DecPre.done {D : List UInt8} {s : List UInt8} (h : DecPre D 0 s) (hs : s ≠ []) : s = D := by
 rcases h with ⟨e, _⟩ | ⟨_, ⟨_, e⟩ | ⟨e, _⟩⟩
 ·exact (hs e).elim
 ·exact e
 ·omega
def emptyOf : Value → Nat
 | .string ⟨⟨[]⟩⟩ => 1
 | _ => 0
theorem emptyOf_cons (c : UInt8) (l : List UInt8) : emptyOf (.string ⟨(c :: l).toArray⟩) = 0 := rfl
theorem byte_add (k : Nat) : 48 + UInt8.ofNat k = UInt8.ofNat (48 + k) := by simp [UInt8.ofNat_add]

set_option maxHeartbeats 2000000 in
set_option maxRecDepth 100000 in
theorem rdecAll_any (n : Int) (w : World) (h0 : -9223372036854775808 ≤ n) (h1 : n ≤ 9223372036854775807) :
  Calls Tryz.prog 55 #[.int .i64 n] w fun e w' => e = .returned (.string ⟨(Lib.itoa n).toArray⟩) ∧ Below w.heap.size w w' := by
 go_enter Tryz.func55, Tryz.ntmps55
 go_wp2_with fail
 refine (sizeAll_any n _ h0 h1).mono ?_
 rintro e w' ⟨rfl, rfl⟩
 go_wp2_with fail
 go_loopw [3, 4] (fun s m wr => ∃ (l : List UInt8) (k : Nat), s = .string ⟨l.toArray⟩ ∧ m = .int .u64 (k : Nat) ∧ k ≤ 9223372036854775808 ∧ Hid (DecPre (Lib.decDigits n.natAbs) k l) ∧ l.length ≤ 22 ∧ Below w.heap.size w wr) (fun s m _ => 2 * (intOfC m).toNat + emptyOf s)
 case atStart => exact ⟨[], n.natAbs, rfl, rfl, by omega, .inl ⟨rfl, rfl⟩, by simp, Below.refl _ _⟩
 case round =>
  obtain ⟨l, k, rfl, rfl, hk, HD, hl, hB⟩ := hrel
  have HB := Lib.hid hB
  by_cases hc : 0 < k ∨ l = []
  ·have HN := Lib.hid (HD.out.next hc)
   have HL : Hid ((UInt8.ofNat (48 + k % 10) :: l).length ≤ 22) := HN.out.len h0 h1
   have hm : k % 10 < 10 := Nat.mod_lt _ (by decide)
   by_cases hk0 : 0 < k
   ·clear hc hB
    go_wp2_with fail
    go_round
    case rel => exact ⟨UInt8.ofNat (48 + k % 10) :: l, k / 10, by simp, by go_num, by omega, HN, HL.out, HB.out.alloc HB.out.size _⟩
    case measure =>
     rw [byte_add, emptyOf_cons]
     show 2 * ((k : Int) / 10).toNat + 0 < 2 * (k : Int).toNat + _
     omega
   ·have hl0 : l = [] := by rcases hc with h | h; exact (hk0 h).elim; exact h
    have hk1 : k = 0 := by omega
    subst hl0 hk1
    clear hc hB hk0
    go_wp2_with fail
    go_round
    case rel => exact ⟨[48], 0, by simp, by go_num, by omega, HN, by simp, HB.out.alloc HB.out.size _⟩
    case measure => decide
  ·have hk0 : k = 0 := by omega
   subst hk0
   have hl0 : l ≠ [] := fun e => hc (.inr e)
   have HE := Lib.hid (HD.out.done hl0)
   obtain ⟨c, r, rfl⟩ := List.exists_cons_of_ne_nil hl0
   have hl0 : (c :: r).isEmpty = false := rfl
   have hl1 : r.length ≤ 21 := by simpa using hl
   clear hl
   clear hc hB
   by_cases hn : n < 0
   ·have HI : Hid (Lib.itoa n = 45 :: (c :: r)) := by show _ = _; unfold Lib.itoa; rw [if_pos hn, HE.out]
    go_wp2_with fail
    go_ret
    exact ⟨ret_str (by rw [HI.out]), HB.out⟩
   ·have HI : Hid (Lib.itoa n = c :: r) := by show _ = _; unfold Lib.itoa; rw [if_neg hn, HE.out, show n.toNat = n.natAbs by omega]
    go_wp2_with fail
    go_ret
    exact ⟨ret_str HI.out.symm, HB.out⟩
end Go.Proofs.YtdcbnkimjhefkaaGreatDoor

namespace Go.Proofs.YtdcbnkimjhefkaaGreatDoor
open Go.RowKit
attribute [local go_sem] ba_get ba_extract take_rest
def strsV (S : List (List UInt8)) : List Value := S.map fun x => .string ⟨x.toArray⟩
def splitL (d : UInt8) : List UInt8 → List (List UInt8) × List UInt8
 | [] => ([], [])
 | c :: r => if c = d then ([] :: (splitL d r).1, (splitL d r).2) else match (splitL d r).1 with
  | [] => ([], c :: (splitL d r).2)
  | l :: ls => ((c :: l) :: ls, (splitL d r).2)
theorem splitL_snoc (d c : UInt8) : ∀ p : List UInt8, splitL d (p ++ [c]) = if c = d then ((splitL d p).1 ++ [(splitL d p).2], []) else ((splitL d p).1, (splitL d p).2 ++ [c])
 | [] => by
  by_cases h : c = d <;> simp [splitL, h]
 | x :: p => by
  have ih := splitL_snoc d c p
  by_cases h : c = d
  ·rw [if_pos h] at ih ⊢
   rw [List.cons_append]
   by_cases hx : x = d
   ·simp only [splitL, hx, if_true, ih]
    simp
   ·simp only [splitL, hx, if_false, ih]
    cases h1 : (splitL d p).1 <;> simp
  ·rw [if_neg h] at ih ⊢
   rw [List.cons_append]
   by_cases hx : x = d
   ·simp only [splitL, hx, if_true, ih]
   ·simp only [splitL, hx, if_false, ih]
    cases h1 : (splitL d p).1 <;> simp
theorem infoStrC : (Tryz.prog.info? 9).map (fun i => (i.zero, i.size, i.bytes)) = some (some (.string ⟨#[]⟩), 1, 16) := by kernel_rfl
theorem info_partsC {P : Program} {t : TypeId} {z : Option Value} {s b : Nat} (h : (P.info? t).map (fun i => (i.zero, i.size, i.bytes)) = some (z, s, b)) : ∃ i, P.info? t = some i ∧ i.zero = z ∧ i.size = s ∧ i.bytes = b := by
 cases hi : P.info? t with
 | none => rw [hi] at h; cases h
 | some i =>
  rw [hi] at h
  simp only [Option.map_some, Option.some.injEq, Prod.mk.injEq] at h
  exact ⟨i, rfl, h.1, h.2.1, h.2.2⟩
theorem own_geC {w : World} {base : Nat} {e : TypeId} {size : Nat} {v : Value} {n : Nat} {xs : List Value} (h : w.ownsRow base e size v n xs) {k : Nat} (hk : v.ownBlock = some k) : base ≤ k := by
 rcases h.2 with ⟨rfl, _⟩ | ⟨g, cap, cur, rfl, hg, _⟩
 ·simp [Value.ownBlock] at hk
 ·simp [Value.ownBlock] at hk
  omega
theorem below_grown {w w1 w2 : World} {B : Nat} {row : Option Nat} (h : Below B w w1) (hg : w1.grownBy w2 row) (hr : ∀ k, row = some k → B ≤ k) (hB : B ≤ w1.heap.size) : Below B w w2 :=
 h.trans ⟨hg.os, hg.tape, hg.output, hg.size, fun k hk => hg.block k (by omega) (fun e => by have := hr k e.symm; omega)⟩
theorem splitL_len (d : UInt8) : ∀ p : List UInt8, (splitL d p).1.length ≤ p.length
 | [] => Nat.le_refl _
 | x :: p => by
  have ih := splitL_len d p
  by_cases hx : x = d
  ·simp only [splitL, hx, if_true, List.length_cons]
   omega
  ·simp only [splitL, hx, if_false]
   cases h1 : (splitL d p).1 with
   | nil => simp
   | cons l ls => rw [h1] at ih; simpa using Nat.le_succ_of_le ih
set_option maxHeartbeats 4000000 in
set_option maxRecDepth 100000 in
theorem rlines_any (s : List UInt8) (w : World) (hs : s.length ≤ 4294967296) :
  Calls Tryz.prog 39 #[.string ⟨s.toArray⟩] w fun e w' => ∃ v, e = .returned (.tuple #[v, .bool (splitL 10 s).2.isEmpty]) ∧ w'.ownsRow w.heap.size 9 1 v (splitL 10 s).1.length (strsV (splitL 10 s).1) ∧ Below w.heap.size w w' := by
 obtain ⟨i0, hi, hz0, hz1, hz2⟩ := info_partsC infoStrC
 go_enter Tryz.func39, Tryz.ntmps39
 go_wp2_with fail
 go_loopw [4, 5, 6] (fun v fr i wr => ∃ (k f : Nat), k ≤ s.length ∧ f ≤ k ∧ fr = .int .i64 (f : Nat) ∧ i = .int .i64 (k : Nat) ∧ Hid ((splitL 10 (s.take k)).2 = (s.drop f).take (k - f)) ∧ wr.ownsRow w.heap.size 9 1 v (splitL 10 (s.take k)).1.length (strsV (splitL 10 (s.take k)).1) ∧ Below w.heap.size w wr) (fun _ _ i _ => s.length - (intOfC i).toNat)
 case atStart => exact ⟨0, 0, Nat.zero_le _, Nat.le_refl _, rfl, rfl, by show (splitL 10 []).2 = _; simp [splitL], ⟨by simp [splitL, strsV], .inl ⟨rfl, rfl⟩⟩, Below.refl _ _⟩
 case round =>
  obtain ⟨k, f, hk, hf, rfl, rfl, HS, hown, hB⟩ := hrel
  by_cases hlt : k < s.length
  ·have hget : s.take (k + 1) = s.take k ++ [s[k]] := by rw [List.take_add_one, List.getElem?_eq_getElem hlt]; rfl
   have HN := Lib.hid (splitL_snoc 10 s[k] (s.take k))
   rw [← hget] at HN
   have hdr : (s.drop f).take (k + 1 - f) = (s.drop f).take (k - f) ++ [s[k]] := by
    rw [show k + 1 - f = (k - f) + 1 by omega, List.take_add_one, List.getElem?_drop, show f + (k - f) = k by omega, List.getElem?_eq_getElem hlt]
    rfl
   have HD := Lib.hid hdr
   clear hdr hget
   by_cases hc : s[k] = 10
   ·have h10 : (((s[k]'hlt).toNat : Int) == 10) = true := by rw [hc]; rfl
    have HN2 : Hid (splitL 10 (s.take (k + 1)) = ((splitL 10 (s.take k)).1 ++ [(s.drop f).take (k - f)], [])) := by show _ = _; rw [HN.out, if_pos hc, HS.out]
    have HBr := Lib.hid hB
    have hBs := hB.size
    clear hc hB
    go_wp2_with (at_builtin; refine wpList_append_own _ rfl _ _ 53 rfl w.heap.size 9 i0 (.string ⟨#[]⟩) 1 16 Tryz.underlying53 hi hz0 hz1 hz2 rfl (by decide) _ _ _ rfl (hown.alloc _) ⟨wr.heap.size, 0, none⟩ 1 1 [.string ⟨((s.drop f).take (k - f)).toArray⟩] rfl rfl ?c1 ?c2 ?c3 ?c4 ?c5 ?_)
    case c1 => exact cell_one_new _ _ _
    case c2 => exact fun u hu => by simp at hu; subst hu; rfl
    case c3 => unfold maxLen; have := splitL_len 10 (s.take k); simp at this; omega
    case c4 => have := splitL_len 10 (s.take k); simp at this; omega
    case c5 => simp; omega
    intro v2 w2 hown2 hg2 _
    go_wp2_with fail
    go_round
    case rel => exact ⟨k + 1, k + 1, by omega, Nat.le_refl _, by go_num, by go_num, by show _ = _; rw [HN2.out]; simp, by rw [HN2.out]; simpa [strsV] using hown2, below_grown (HBr.out.alloc HBr.out.size _) hg2 (fun k hk => own_geC hown hk) (by simp; omega)⟩
    case measure => simp [intOfC]; omega
   ·have h10 : (((s[k]'hlt).toNat : Int) == 10) = false := by
     simp only [beq_eq_false_iff_ne, ne_eq]
     intro e
     exact hc (UInt8.toNat_inj.1 (by show _ = 10; omega))
    have HN2 : Hid (splitL 10 (s.take (k + 1)) = ((splitL 10 (s.take k)).1, (s.drop f).take (k + 1 - f))) := by show _ = _; rw [HN.out, if_neg hc, HS.out, HD.out]
    clear hc
    go_wp2_with fail
    go_round
    case rel => exact ⟨k + 1, f, by omega, by omega, by go_num, by go_num, by show _ = _; rw [HN2.out], by rw [HN2.out]; exact hown, hB⟩
    case measure => simp [intOfC]; omega
  ·have hkl : k = s.length := by omega
   subst hkl
   rw [List.take_length] at HS hown
   go_wp2_with fail
   go_ret2
   refine ⟨_, ?_, hown, hB⟩
   have e : (splitL 10 s).2.isEmpty = ((f : Int) == (s.length : Int)) := by
    rw [HS.out]
    by_cases hfe : f = s.length
    ·subst hfe
     simp
    ·have : ((f : Int) == (s.length : Int)) = false := by simpa using (by omega : (f : Int) ≠ s.length)
     rw [this, List.isEmpty_eq_false_iff]
     intro e0
     have := congrArg List.length e0
     simp at this
     omega
   rw [e]
   try rfl
end Go.Proofs.YtdcbnkimjhefkaaGreatDoor

namespace Go.Proofs.YtdcbnkimjhefkaaGreatDoor
structure Cmd where
 kind : Int
 emp : Int
 fk : Int
 fr : Int
 nm : List UInt8
 val : Int
 ext : Int
 rnk : Int
 txt : List UInt8
 per : Int
 wh : Nat
 torn : Int
 stop : Int
 deriving DecidableEq
def Cmd.cells (c : Cmd) : List Value := [.int .i64 c.kind, .int .i64 c.emp, .int .i64 c.fk, .int .i64 c.fr, .string ⟨⟨c.nm⟩⟩, .int .i64 c.val, .int .i64 c.ext, .int .i64 c.rnk, .string ⟨⟨c.txt⟩⟩, .int .i64 c.per, .int .u64 c.wh, .int .i64 c.torn, .int .i64 c.stop]
structure Form where
 word : List UInt8
 kind : Int
 fact : Int
 letters : List UInt8
 deriving DecidableEq
def Form.cells (f : Form) : List Value := [.string ⟨⟨f.word⟩⟩, .int .i64 f.kind, .int .i64 f.fact, .string ⟨⟨f.letters⟩⟩]
def Form.zero : Form := ⟨[], 0, 0, []⟩
def forms : List Form := [⟨[104, 105, 114, 101], 1, 1, [69, 68]⟩, ⟨[108, 101, 97, 118, 101], 1, 2, [69, 68]⟩, ⟨[105, 110, 112, 117, 116], 1, 3, [69, 78, 68, 86]⟩, ⟨[104, 111, 117, 114, 115], 1, 4, [69, 78, 68, 86]⟩, ⟨[97, 103, 114, 101, 101, 109, 101, 110, 116], 1, 5, [68]⟩, ⟨[114, 117, 108, 101, 115], 1, 6, [68, 86]⟩, ⟨[100, 101, 112, 101, 110, 100, 101, 110, 116, 115], 1, 7, [69, 68, 86]⟩, ⟨[111, 114, 100, 101, 114], 1, 8, [69, 78, 68, 86, 88, 82]⟩, ⟨[100, 101, 100, 117, 99, 116, 105, 111, 110], 1, 9, [69, 78, 68, 86, 88, 82]⟩, ⟨[112, 114, 101, 112, 97, 114, 101], 2, 0, [80]⟩, ⟨[114, 101, 108, 101, 97, 115, 101], 3, 0, []⟩, ⟨[112, 97, 121], 4, 0, []⟩, ⟨[114, 101, 118, 101, 114, 115, 101], 5, 0, []⟩, ⟨[99, 114, 97, 115, 104], 6, 0, [87, 84, 83]⟩]
theorem forms_len : forms.length = 14 := rfl
end Go.Proofs.YtdcbnkimjhefkaaGreatDoor

namespace Go.Proofs.YtdcbnkimjhefkaaGreatDoor
section
variable {P : Program} {ops : Array Oper} {Q : Exit → Act → World → Prop} {md : Region.Mode} {W : Wr} {listed0 : Array Bool} {n : Nat} {E : Nat → Value} {C : World → Prop} {Ext : World → World → Prop} {L : List Loc} {w0 : World}

def evalVE (n : Nat) (E : Nat → Value) (W : Wr) (vals : Nat → Value) : Operand → Value
 | .tmp t => match W.of t with
  | some j => vals j
  | none => evE n E (.tmp t)
 | x => evE n E x
theorem evalV_Fr (vals : Nat → Value) : evalV (Fr n E) W vals = evalVE n E W vals := by
 funext x
 unfold evalV evalVE
 rw [eval_Fr]
 cases x <;> rfl
def PartE (P : Program) (ops : Array Oper) (n : Nat) (E : Nat → Value) (W : Wr) (C : World → Prop) (Ext : World → World → Prop) (L : List Loc) (l : Loc) : Prop :=
 (∀ vs w w', C w → Ext w w' → l.says vs w → l.says vs w') ∧
  ∀ (vals : Nat → Value) (w : World), C w → heldBy l.before vals w L → OpOk P (ops.getD l.idx default) (evalVE n E W vals) w (fun v w' => C w' ∧ Ext w w' ∧ l.says (l.deps.map (upv vals l.idx v)) w')
def PartsE (P : Program) (ops : Array Oper) (n : Nat) (E : Nat → Value) (W : Wr) (C : World → Prop) (Ext : World → World → Prop) (L : List Loc) : List Loc → Prop
 | [] => True
 | l :: r => PartE P ops n E W C Ext L l ∧ PartsE P ops n E W C Ext L r
theorem PartsE.parts : ∀ {r : List Loc}, PartsE P ops n E W C Ext L r → Parts P ops (Fr n E) W C Ext L r
 | [], _ => trivial
 | l :: r, h => by
  refine ⟨⟨h.1.1, fun vals w hC hb => ?_⟩, PartsE.parts h.2⟩
  rw [evalV_Fr]
  exact h.1.2 vals w hC hb
theorem any_partsE (hok : (locOk md ops W listed0 n L && bare ops L) = true) (hC : C w0) (hrf : ∀ w : World, Ext w w) (htr : ∀ a b c : World, Ext a b → Ext b c → Ext a c)
  (hp : PartsE P ops n E W C Ext L L) {fuel k : Nat} (hk : k = L.length + fuel)
  (H : ∀ vals w, C w → Ext w0 w → heldAll vals w L → wpAny P md ops Q fuel ((L.map (·.idx)).foldl (fun b i => b.setIfInBounds i true) listed0) (Fr n (finE ops vals (L.map (·.idx)) E)) w) :
  wpAny P md ops Q k listed0 (Fr n E) w0 := by
 subst hk
 refine any_parts (by rw [Fr_size]; exact hok) hC hrf htr hp.parts fun vals w h1 h2 h3 => ?_
 rw [fin_Fr]
 exact H vals w h1 h2 h3
theorem knows_valsE {vals : Nat → Value} : ∀ {l : List (Tmp × Nat × Value)}, (∀ p ∈ l, W.of p.1 = some p.2.1) → KV vals l → Knows (evalVE n E W vals) (l.map (fun p => (p.1, p.2.2)))
 | [], _, _ => trivial
 | p :: l, hw, hv => by
  refine ⟨?_, knows_valsE (fun q hq => hw q (by simp [hq])) hv.2⟩
  have := hw p (by simp)
  unfold evalVE
  simp only [this]
  exact hv.1
theorem OpOk.knownE {o : Oper} {vals : Nat → Value} {w : World} {K : Value → World → Prop} (l : List (Tmp × Nat × Value))
  (hc : (l.all (fun p => W.of p.1 == some p.2.1)) = true) (hv : KV vals l)
  (hk : OpOk P o (ovr (l.map (fun p => (p.1, p.2.2))) (evalVE n E W vals)) w K) : OpOk P o (evalVE n E W vals) w K := by
 simp only [List.all_eq_true, beq_iff_eq] at hc
 exact OpOk.over _ (knows_valsE hc hv) hk
theorem part_pureE {i : Nat} {B : List Nat} {v : Value} (hrf : ∀ w : World, Ext w w)
  (h : ∀ (vals : Nat → Value) (w : World), C w → heldBy B vals w L → (execOp (evalVE n E W vals) (ops.getD i default)).run P w = .ok (.value v) w) : PartE P ops n E W C Ext L (pureL i B v) :=
 ⟨fun _ _ _ _ _ h => h, fun vals w hC hb => OpOk.value (h vals w hC hb) ⟨hC, hrf w, by simp [pureL, upv]⟩⟩
theorem OpOk.reads {o : Oper} {ρ : Operand → Value} {w : World} {K : Value → World → Prop} (m : MS) (hg : ∀ e ∈ m.mem, e.good w) (v : Value) (hv : (lrun P (execOp ρ o) m).map (·.1) = some (.value v))
  (he : ((lrun P (execOp ρ o) m).map (·.2.eqs.map Prod.fst)) = ((lrun P (execOp ρ o) m).map (·.2.eqs.map Prod.snd))) (hk : K v w) : OpOk P o ρ w K := by
 cases hl : lrun P (execOp ρ o) m with
 | none => rw [hl] at hv; cases hv
 | some p =>
  obtain ⟨v', m'⟩ := p
  rw [hl] at hv he
  have hv' : v' = .value v := Option.some.inj hv
  have he' : m'.eqs.map Prod.fst = m'.eqs.map Prod.snd := Option.some.inj he
  subst hv'
  refine OpOk.value (v := v) (w' := w) (lrun_sound _ _ _ _ hl hg fun p hp => ?_) hk
  obtain ⟨i, hi⟩ := List.mem_iff_getElem?.1 hp
  have h1 : (m'.eqs.map Prod.fst)[i]? = some p.1 := by rw [List.getElem?_map, hi]; rfl
  have h2 : (m'.eqs.map Prod.snd)[i]? = some p.2 := by rw [List.getElem?_map, hi]; rfl
  rw [he', h2] at h1
  exact (Option.some.inj h1).symm
theorem lies_lit {O : List Nat} {B : Nat} {w : World} {s : MS} (h : Lies O B w s) (z : Nat) (m : List Ent) (hz : s.sz = z) (hm : s.mem = m) : Lies O B w ⟨z, m, (0, 0), []⟩ := by
 subst hz hm
 exact ⟨h.sat, h.le, h.own⟩
def stepT : List Item → Option (List Item)
 | .code .skip :: k => some k
 | .code (.label _) :: k => some k
 | .inBlock _ :: k => some k
 | .code (.seq x y) :: k => some (.code x :: .code y :: k)
 | .code (.block id c) :: k => some (.code c :: .inBlock id :: k)
 | .code (.exit id) :: k => exitTo id k
 | .code (.region _ ops false) :: k => some (.inRegion ops (List.range ops.size) :: k)
 | .inRegion _ [] :: k => some k
 | .inRegion ops (i :: r) :: k => match ops[i]? with
  | some o => match heavy o.op with
   | true => none
   | false => some (.inRegion ops r :: k)
  | none => none
 | _ => none
def advT : Nat → List Item → List Item
 | 0, t => t
 | m + 1, t => match stepT t with
  | some t' => advT m t'
  | none => t
theorem at_run {f : FuncId} {R : Ending → World → Prop} {w : World} (m : Nat) (todo : List Item) (z : Nat) (mem : List Ent) (hints : List (Nat × Nat)) (todo' : List Item) (l : List (Nat × Value)) (z' : Nat) (mem' : List Ent)
  (hL : Lies (mem.map (·.id)) w.heap.size w ⟨z, mem, (0, 0), []⟩)
  (he : (fun a : St => (a.todo, a.ms.mem, a.ms.sz, l.map (fun p => a.env p.1), a.ms.eqs.map Prod.fst)) (adv P n m ⟨todo, E, ⟨z, mem, (0, 0), []⟩, hints⟩) = (todo', mem', z', l.map (·.2), (adv P n m ⟨todo, E, ⟨z, mem, (0, 0), []⟩, hints⟩).ms.eqs.map Prod.snd))
  (hk : ∀ w' E', Lies (mem.map (·.id)) w.heap.size w' ⟨z', mem', (0, 0), []⟩ → Kept (mem.map (·.id)) w.heap.size w w' → At P f R todo' (Fr n (updL E' l)) w') : At P f R todo (Fr n E) w := by
 simp only [Prod.mk.injEq] at he
 obtain ⟨h1, h2, h3, h4, h5⟩ := he
 refine at_adv m ⟨todo, E, ⟨z, mem, (0, 0), []⟩, hints⟩ hL h5 fun w' hL' hK => ?_
 rw [h1]
 exact at_known l h4 fun E' => hk w' E' (lies_lit hL' z' mem' h3 h2) hK
theorem lies_nil (w : World) : Lies [] w.heap.size w ⟨w.heap.size, [], (0, 0), []⟩ :=
 ⟨⟨rfl, fun e he => (by cases he), fun i j e e' hi => (by simp at hi)⟩, Nat.le_refl _, fun e he => (by cases he)⟩
theorem owns_keep {w w' : World} {base : Nat} {e : TypeId} {size : Nat} {v : Value} {k : Nat} {xs : List Value} (h : w.ownsRow base e size v k xs) (hk : ∀ g, v.ownBlock = some g → w'.heap[g]? = w.heap[g]?) : w'.ownsRow base e size v k xs := by
 obtain ⟨h1, h2⟩ := h
 refine ⟨h1, ?_⟩
 rcases h2 with h2 | ⟨g, cap, cur, rfl, hg, hb, h3⟩
 ·exact .inl h2
 ·exact .inr ⟨g, cap, cur, rfl, hg, (hk g rfl).trans hb, h3⟩
theorem calls_at {f : FuncId} {R : Ending → World → Prop} {fn : Func} {c : Code} {args : List Value} {w : World} (hf : P.funcs[f]? = some fn) (hb : fn.body = some c) (hn : fn.ntmps = n) (hl : Nat.ble args.length n = true)
  (h : At P f R [.code c] (Fr n (fun t => args.getD t undef)) w) : Calls P f args.toArray w R := by
 subst hn
 exact calls_mid hf hb h.mid (Nat.le_of_ble_eq_true hl)
theorem any_run {O : List Nat} {B : Nat} {listed : Array Bool} {fuel i : Nat} {w : World} (o : Oper) (ms ms' : MS) (r : Next) (v : Value) (hr : Region.ready md ops listed = [i]) (ho : ops[i]? = some o) (hg : o.guard = none)
  (hm : mrun P (execOp (evE n E) o) ms = some (r, ms')) (hv : r = .value v ∨ (r = .skip ∧ v = undef)) (hL : Lies O B w ms) (he : ms'.eqs.map Prod.fst = ms'.eqs.map Prod.snd)
  (hk : ∀ w', Lies O B w' ms' → Kept O B w w' → wpAny P md ops Q fuel (listed.setIfInBounds i true) (Fr n (updO E o.dst v)) w') : wpAny P md ops Q (fuel + 1) listed (Fr n E) w := by
 refine any_one hr ho hg ?_
 have he' : ∀ p ∈ ms'.eqs, p.1 = p.2 := fun p hp => by
  obtain ⟨i, hi⟩ := List.mem_iff_getElem?.1 hp
  have h1 : (ms'.eqs.map Prod.fst)[i]? = some p.1 := by rw [List.getElem?_map, hi]; rfl
  have h2 : (ms'.eqs.map Prod.snd)[i]? = some p.2 := by rw [List.getElem?_map, hi]; rfl
  rw [he, h2] at h1
  exact (Option.some.inj h1).symm
 obtain ⟨w', h1, h2, h3, h4⟩ := mrun_sound _ _ _ _ w hm hL.sat hL.le hL.own he'
 unfold Oper.wp
 rw [eval_Fr, h1]
 have hk' := hk w' ⟨h2, Nat.le_trans hL.le h3.size, h4⟩ h3
 rw [← Fr_put] at hk'
 rcases hv with rfl | ⟨rfl, rfl⟩
 ·exact hk'
 ·exact hk'
theorem any_end {listed : Array Bool} {fuel : Nat} {a : Act} {w : World} (hr : Region.ready md ops listed = []) (h : Q .normal a w) : wpAny P md ops Q fuel listed a w := wpAny_done hr h fuel
end
end Go.Proofs.YtdcbnkimjhefkaaGreatDoor

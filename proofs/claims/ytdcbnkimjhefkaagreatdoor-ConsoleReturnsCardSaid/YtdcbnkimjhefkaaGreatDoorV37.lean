/-
  A line that reads as a command is what the command prints.
  A script that is read prints to itself.
-/
import Derived.Test.YtdcbnkimjhefkaaGreatDoorV33
import Derived.Test.YtdcbnkimjhefkaaGreatDoorV29
import Derived.Test.YtdcbnkimjhefkaaGreatDoorV34
namespace Go.Proofs.YtdcbnkimjhefkaaGreatDoor
open Go.RowKit
set_option maxRecDepth 100000
theorem numO_some {s : List UInt8} {n : Int} (h : numO s = some n) : Lib.itoa n = s ∧ -1000000000000000000 ≤ n ∧ n ≤ 1000000000000000000 := by
  unfold numO at h
  split at h
  · split at h
    · rename_i hc
      obtain rfl := Option.some.inj h
      exact hc
    · cases h
  · cases h
theorem fits_in {n : Int} (h1 : -1000000000000000000 ≤ n) (h2 : n ≤ 1000000000000000000) : fitsP n = true := by
  unfold fitsP
  rw [decide_eq_true h1, decide_eq_true h2]
  rfl
theorem inR_of {n : Int} (h1 : -1000000000000000000 ≤ n) (h2 : n ≤ 1000000000000000000) : inR n := ⟨by omega, by omega⟩
theorem lp78 (s : List UInt8) (c : Cmd) : letP (78 : UInt8).toNat s c = if Tk.isName s = true then some { c with nm := s } else none := rfl
theorem lp87 (s : List UInt8) (c : Cmd) : letP (87 : UInt8).toNat s c = match numO s with | some n => if 0 ≤ n then some { c with wh := n.toNat } else none | none => none := rfl
theorem lp69 (s : List UInt8) (c : Cmd) : letP (69 : UInt8).toNat s c = (numO s).map fun n => { c with emp := n } := rfl
theorem lp68 (s : List UInt8) (c : Cmd) : letP (68 : UInt8).toNat s c = (numO s).map fun n => { c with fr := n } := rfl
theorem lp86 (s : List UInt8) (c : Cmd) : letP (86 : UInt8).toNat s c = (numO s).map fun n => { c with val := n } := rfl
theorem lp88 (s : List UInt8) (c : Cmd) : letP (88 : UInt8).toNat s c = (numO s).map fun n => { c with ext := n } := rfl
theorem lp82 (s : List UInt8) (c : Cmd) : letP (82 : UInt8).toNat s c = (numO s).map fun n => { c with rnk := n } := rfl
theorem lp80 (s : List UInt8) (c : Cmd) : letP (80 : UInt8).toNat s c = (numO s).map fun n => { c with per := n } := rfl
theorem lp84 (s : List UInt8) (c : Cmd) : letP (84 : UInt8).toNat s c = (numO s).map fun n => { c with torn := n } := rfl
theorem lp83 (s : List UInt8) (c : Cmd) : letP (83 : UInt8).toNat s c = (numO s).map fun n => { c with stop := n } := rfl
/-- What a read line says of its command. -/
structure Back (F : Form) (r : List (List UInt8)) (c : Cmd) : Prop where
  form : formOf c = some F
  ok : okL c F.letters = true
  items : itemsP c F.letters = r.flatMap fun w => 32 :: w
  left : restP c F.letters = Cmd.of F
  txt : c.txt = []
  fk : c.fk = F.fact
  wf : c.Wf
theorem back0 (r : List (List UInt8)) (c : Cmd) (hl : r.length = 2) (hr : ∀ w ∈ r, w.length ≤ 70000) (hc : letsP [69, 68] r (Cmd.of ⟨[104, 105, 114, 101], 1, 1, [69, 68]⟩) = some c) : Back ⟨[104, 105, 114, 101], 1, 1, [69, 68]⟩ r c := by
  match r, hl with
  | [r1, r2], _ =>
    simp only [letsP, lp69, lp68] at hc
    cases h1 : numO r1 with
    | none => simp only [h1, Option.map_none] at hc; cases hc
    | some n1 =>
    simp only [h1, Option.map_some] at hc
    obtain ⟨i1, a1, b1⟩ := numO_some h1
    have f1 := fits_in a1 b1
    have g1 := inR_of a1 b1
    cases h2 : numO r2 with
    | none => simp only [h2, Option.map_none] at hc; cases hc
    | some n2 =>
    simp only [h2, Option.map_some] at hc
    obtain ⟨i2, a2, b2⟩ := numO_some h2
    have f2 := fits_in a2 b2
    have g2 := inR_of a2 b2
    obtain rfl := Option.some.inj hc
    refine ⟨by kernel_rfl, ?_, ?_, by kernel_rfl, rfl, rfl, ⟨(show inR 1 from ⟨by decide, by decide⟩), g1, (show inR 1 from ⟨by decide, by decide⟩), g2, zero_in, zero_in, zero_in, zero_in, zero_in, zero_in, (show (0 : Nat) < 18446744073709551616 from by decide), (Nat.zero_le _), Nat.zero_le _⟩⟩
    · show (fitsP n1 && (fitsP n2 && true)) = true
      rw [f1, f2]
      rfl
    · show ((32 :: Lib.itoa n1) ++ ((32 :: Lib.itoa n2) ++ [])) = _
      rw [i1, i2]
      rfl
theorem back1 (r : List (List UInt8)) (c : Cmd) (hl : r.length = 2) (hr : ∀ w ∈ r, w.length ≤ 70000) (hc : letsP [69, 68] r (Cmd.of ⟨[108, 101, 97, 118, 101], 1, 2, [69, 68]⟩) = some c) : Back ⟨[108, 101, 97, 118, 101], 1, 2, [69, 68]⟩ r c := by
  match r, hl with
  | [r1, r2], _ =>
    simp only [letsP, lp69, lp68] at hc
    cases h1 : numO r1 with
    | none => simp only [h1, Option.map_none] at hc; cases hc
    | some n1 =>
    simp only [h1, Option.map_some] at hc
    obtain ⟨i1, a1, b1⟩ := numO_some h1
    have f1 := fits_in a1 b1
    have g1 := inR_of a1 b1
    cases h2 : numO r2 with
    | none => simp only [h2, Option.map_none] at hc; cases hc
    | some n2 =>
    simp only [h2, Option.map_some] at hc
    obtain ⟨i2, a2, b2⟩ := numO_some h2
    have f2 := fits_in a2 b2
    have g2 := inR_of a2 b2
    obtain rfl := Option.some.inj hc
    refine ⟨by kernel_rfl, ?_, ?_, by kernel_rfl, rfl, rfl, ⟨(show inR 1 from ⟨by decide, by decide⟩), g1, (show inR 2 from ⟨by decide, by decide⟩), g2, zero_in, zero_in, zero_in, zero_in, zero_in, zero_in, (show (0 : Nat) < 18446744073709551616 from by decide), (Nat.zero_le _), Nat.zero_le _⟩⟩
    · show (fitsP n1 && (fitsP n2 && true)) = true
      rw [f1, f2]
      rfl
    · show ((32 :: Lib.itoa n1) ++ ((32 :: Lib.itoa n2) ++ [])) = _
      rw [i1, i2]
      rfl
theorem back2 (r : List (List UInt8)) (c : Cmd) (hl : r.length = 4) (hr : ∀ w ∈ r, w.length ≤ 70000) (hc : letsP [69, 78, 68, 86] r (Cmd.of ⟨[105, 110, 112, 117, 116], 1, 3, [69, 78, 68, 86]⟩) = some c) : Back ⟨[105, 110, 112, 117, 116], 1, 3, [69, 78, 68, 86]⟩ r c := by
  match r, hl with
  | [r1, r2, r3, r4], _ =>
    simp only [letsP, lp69, lp78, lp68, lp86] at hc
    cases h1 : numO r1 with
    | none => simp only [h1, Option.map_none] at hc; cases hc
    | some n1 =>
    simp only [h1, Option.map_some] at hc
    obtain ⟨i1, a1, b1⟩ := numO_some h1
    have f1 := fits_in a1 b1
    have g1 := inR_of a1 b1
    by_cases h2 : Tk.isName r2 = true
    case neg => simp only [if_neg h2] at hc; cases hc
    simp only [if_pos h2] at hc
    cases h3 : numO r3 with
    | none => simp only [h3, Option.map_none] at hc; cases hc
    | some n3 =>
    simp only [h3, Option.map_some] at hc
    obtain ⟨i3, a3, b3⟩ := numO_some h3
    have f3 := fits_in a3 b3
    have g3 := inR_of a3 b3
    cases h4 : numO r4 with
    | none => simp only [h4, Option.map_none] at hc; cases hc
    | some n4 =>
    simp only [h4, Option.map_some] at hc
    obtain ⟨i4, a4, b4⟩ := numO_some h4
    have f4 := fits_in a4 b4
    have g4 := inR_of a4 b4
    obtain rfl := Option.some.inj hc
    refine ⟨by kernel_rfl, ?_, ?_, by kernel_rfl, rfl, rfl, ⟨(show inR 1 from ⟨by decide, by decide⟩), g1, (show inR 3 from ⟨by decide, by decide⟩), g3, g4, zero_in, zero_in, zero_in, zero_in, zero_in, (show (0 : Nat) < 18446744073709551616 from by decide), (Nat.le_trans (hr r2 (by simp)) (by decide)), Nat.zero_le _⟩⟩
    · show (fitsP n1 && (Tk.isName r2 && (fitsP n3 && (fitsP n4 && true)))) = true
      rw [f1, h2, f3, f4]
      rfl
    · show ((32 :: Lib.itoa n1) ++ ((32 :: r2) ++ ((32 :: Lib.itoa n3) ++ ((32 :: Lib.itoa n4) ++ [])))) = _
      rw [i1, i3, i4]
      rfl
theorem back3 (r : List (List UInt8)) (c : Cmd) (hl : r.length = 4) (hr : ∀ w ∈ r, w.length ≤ 70000) (hc : letsP [69, 78, 68, 86] r (Cmd.of ⟨[104, 111, 117, 114, 115], 1, 4, [69, 78, 68, 86]⟩) = some c) : Back ⟨[104, 111, 117, 114, 115], 1, 4, [69, 78, 68, 86]⟩ r c := by
  match r, hl with
  | [r1, r2, r3, r4], _ =>
    simp only [letsP, lp69, lp78, lp68, lp86] at hc
    cases h1 : numO r1 with
    | none => simp only [h1, Option.map_none] at hc; cases hc
    | some n1 =>
    simp only [h1, Option.map_some] at hc
    obtain ⟨i1, a1, b1⟩ := numO_some h1
    have f1 := fits_in a1 b1
    have g1 := inR_of a1 b1
    by_cases h2 : Tk.isName r2 = true
    case neg => simp only [if_neg h2] at hc; cases hc
    simp only [if_pos h2] at hc
    cases h3 : numO r3 with
    | none => simp only [h3, Option.map_none] at hc; cases hc
    | some n3 =>
    simp only [h3, Option.map_some] at hc
    obtain ⟨i3, a3, b3⟩ := numO_some h3
    have f3 := fits_in a3 b3
    have g3 := inR_of a3 b3
    cases h4 : numO r4 with
    | none => simp only [h4, Option.map_none] at hc; cases hc
    | some n4 =>
    simp only [h4, Option.map_some] at hc
    obtain ⟨i4, a4, b4⟩ := numO_some h4
    have f4 := fits_in a4 b4
    have g4 := inR_of a4 b4
    obtain rfl := Option.some.inj hc
    refine ⟨by kernel_rfl, ?_, ?_, by kernel_rfl, rfl, rfl, ⟨(show inR 1 from ⟨by decide, by decide⟩), g1, (show inR 4 from ⟨by decide, by decide⟩), g3, g4, zero_in, zero_in, zero_in, zero_in, zero_in, (show (0 : Nat) < 18446744073709551616 from by decide), (Nat.le_trans (hr r2 (by simp)) (by decide)), Nat.zero_le _⟩⟩
    · show (fitsP n1 && (Tk.isName r2 && (fitsP n3 && (fitsP n4 && true)))) = true
      rw [f1, h2, f3, f4]
      rfl
    · show ((32 :: Lib.itoa n1) ++ ((32 :: r2) ++ ((32 :: Lib.itoa n3) ++ ((32 :: Lib.itoa n4) ++ [])))) = _
      rw [i1, i3, i4]
      rfl
theorem back4 (r : List (List UInt8)) (c : Cmd) (hl : r.length = 1) (hr : ∀ w ∈ r, w.length ≤ 70000) (hc : letsP [68] r (Cmd.of ⟨[97, 103, 114, 101, 101, 109, 101, 110, 116], 1, 5, [68]⟩) = some c) : Back ⟨[97, 103, 114, 101, 101, 109, 101, 110, 116], 1, 5, [68]⟩ r c := by
  match r, hl with
  | [r1], _ =>
    simp only [letsP, lp68] at hc
    cases h1 : numO r1 with
    | none => simp only [h1, Option.map_none] at hc; cases hc
    | some n1 =>
    simp only [h1, Option.map_some] at hc
    obtain ⟨i1, a1, b1⟩ := numO_some h1
    have f1 := fits_in a1 b1
    have g1 := inR_of a1 b1
    obtain rfl := Option.some.inj hc
    refine ⟨by kernel_rfl, ?_, ?_, by kernel_rfl, rfl, rfl, ⟨(show inR 1 from ⟨by decide, by decide⟩), zero_in, (show inR 5 from ⟨by decide, by decide⟩), g1, zero_in, zero_in, zero_in, zero_in, zero_in, zero_in, (show (0 : Nat) < 18446744073709551616 from by decide), (Nat.zero_le _), Nat.zero_le _⟩⟩
    · show (fitsP n1 && true) = true
      rw [f1]
      rfl
    · show ((32 :: Lib.itoa n1) ++ []) = _
      rw [i1]
      rfl
theorem back5 (r : List (List UInt8)) (c : Cmd) (hl : r.length = 2) (hr : ∀ w ∈ r, w.length ≤ 70000) (hc : letsP [68, 86] r (Cmd.of ⟨[114, 117, 108, 101, 115], 1, 6, [68, 86]⟩) = some c) : Back ⟨[114, 117, 108, 101, 115], 1, 6, [68, 86]⟩ r c := by
  match r, hl with
  | [r1, r2], _ =>
    simp only [letsP, lp68, lp86] at hc
    cases h1 : numO r1 with
    | none => simp only [h1, Option.map_none] at hc; cases hc
    | some n1 =>
    simp only [h1, Option.map_some] at hc
    obtain ⟨i1, a1, b1⟩ := numO_some h1
    have f1 := fits_in a1 b1
    have g1 := inR_of a1 b1
    cases h2 : numO r2 with
    | none => simp only [h2, Option.map_none] at hc; cases hc
    | some n2 =>
    simp only [h2, Option.map_some] at hc
    obtain ⟨i2, a2, b2⟩ := numO_some h2
    have f2 := fits_in a2 b2
    have g2 := inR_of a2 b2
    obtain rfl := Option.some.inj hc
    refine ⟨by kernel_rfl, ?_, ?_, by kernel_rfl, rfl, rfl, ⟨(show inR 1 from ⟨by decide, by decide⟩), zero_in, (show inR 6 from ⟨by decide, by decide⟩), g1, g2, zero_in, zero_in, zero_in, zero_in, zero_in, (show (0 : Nat) < 18446744073709551616 from by decide), (Nat.zero_le _), Nat.zero_le _⟩⟩
    · show (fitsP n1 && (fitsP n2 && true)) = true
      rw [f1, f2]
      rfl
    · show ((32 :: Lib.itoa n1) ++ ((32 :: Lib.itoa n2) ++ [])) = _
      rw [i1, i2]
      rfl
theorem back6 (r : List (List UInt8)) (c : Cmd) (hl : r.length = 3) (hr : ∀ w ∈ r, w.length ≤ 70000) (hc : letsP [69, 68, 86] r (Cmd.of ⟨[100, 101, 112, 101, 110, 100, 101, 110, 116, 115], 1, 7, [69, 68, 86]⟩) = some c) : Back ⟨[100, 101, 112, 101, 110, 100, 101, 110, 116, 115], 1, 7, [69, 68, 86]⟩ r c := by
  match r, hl with
  | [r1, r2, r3], _ =>
    simp only [letsP, lp69, lp68, lp86] at hc
    cases h1 : numO r1 with
    | none => simp only [h1, Option.map_none] at hc; cases hc
    | some n1 =>
    simp only [h1, Option.map_some] at hc
    obtain ⟨i1, a1, b1⟩ := numO_some h1
    have f1 := fits_in a1 b1
    have g1 := inR_of a1 b1
    cases h2 : numO r2 with
    | none => simp only [h2, Option.map_none] at hc; cases hc
    | some n2 =>
    simp only [h2, Option.map_some] at hc
    obtain ⟨i2, a2, b2⟩ := numO_some h2
    have f2 := fits_in a2 b2
    have g2 := inR_of a2 b2
    cases h3 : numO r3 with
    | none => simp only [h3, Option.map_none] at hc; cases hc
    | some n3 =>
    simp only [h3, Option.map_some] at hc
    obtain ⟨i3, a3, b3⟩ := numO_some h3
    have f3 := fits_in a3 b3
    have g3 := inR_of a3 b3
    obtain rfl := Option.some.inj hc
    refine ⟨by kernel_rfl, ?_, ?_, by kernel_rfl, rfl, rfl, ⟨(show inR 1 from ⟨by decide, by decide⟩), g1, (show inR 7 from ⟨by decide, by decide⟩), g2, g3, zero_in, zero_in, zero_in, zero_in, zero_in, (show (0 : Nat) < 18446744073709551616 from by decide), (Nat.zero_le _), Nat.zero_le _⟩⟩
    · show (fitsP n1 && (fitsP n2 && (fitsP n3 && true))) = true
      rw [f1, f2, f3]
      rfl
    · show ((32 :: Lib.itoa n1) ++ ((32 :: Lib.itoa n2) ++ ((32 :: Lib.itoa n3) ++ []))) = _
      rw [i1, i2, i3]
      rfl
theorem back7 (r : List (List UInt8)) (c : Cmd) (hl : r.length = 6) (hr : ∀ w ∈ r, w.length ≤ 70000) (hc : letsP [69, 78, 68, 86, 88, 82] r (Cmd.of ⟨[111, 114, 100, 101, 114], 1, 8, [69, 78, 68, 86, 88, 82]⟩) = some c) : Back ⟨[111, 114, 100, 101, 114], 1, 8, [69, 78, 68, 86, 88, 82]⟩ r c := by
  match r, hl with
  | [r1, r2, r3, r4, r5, r6], _ =>
    simp only [letsP, lp69, lp78, lp68, lp86, lp88, lp82] at hc
    cases h1 : numO r1 with
    | none => simp only [h1, Option.map_none] at hc; cases hc
    | some n1 =>
    simp only [h1, Option.map_some] at hc
    obtain ⟨i1, a1, b1⟩ := numO_some h1
    have f1 := fits_in a1 b1
    have g1 := inR_of a1 b1
    by_cases h2 : Tk.isName r2 = true
    case neg => simp only [if_neg h2] at hc; cases hc
    simp only [if_pos h2] at hc
    cases h3 : numO r3 with
    | none => simp only [h3, Option.map_none] at hc; cases hc
    | some n3 =>
    simp only [h3, Option.map_some] at hc
    obtain ⟨i3, a3, b3⟩ := numO_some h3
    have f3 := fits_in a3 b3
    have g3 := inR_of a3 b3
    cases h4 : numO r4 with
    | none => simp only [h4, Option.map_none] at hc; cases hc
    | some n4 =>
    simp only [h4, Option.map_some] at hc
    obtain ⟨i4, a4, b4⟩ := numO_some h4
    have f4 := fits_in a4 b4
    have g4 := inR_of a4 b4
    cases h5 : numO r5 with
    | none => simp only [h5, Option.map_none] at hc; cases hc
    | some n5 =>
    simp only [h5, Option.map_some] at hc
    obtain ⟨i5, a5, b5⟩ := numO_some h5
    have f5 := fits_in a5 b5
    have g5 := inR_of a5 b5
    cases h6 : numO r6 with
    | none => simp only [h6, Option.map_none] at hc; cases hc
    | some n6 =>
    simp only [h6, Option.map_some] at hc
    obtain ⟨i6, a6, b6⟩ := numO_some h6
    have f6 := fits_in a6 b6
    have g6 := inR_of a6 b6
    obtain rfl := Option.some.inj hc
    refine ⟨by kernel_rfl, ?_, ?_, by kernel_rfl, rfl, rfl, ⟨(show inR 1 from ⟨by decide, by decide⟩), g1, (show inR 8 from ⟨by decide, by decide⟩), g3, g4, g5, g6, zero_in, zero_in, zero_in, (show (0 : Nat) < 18446744073709551616 from by decide), (Nat.le_trans (hr r2 (by simp)) (by decide)), Nat.zero_le _⟩⟩
    · show (fitsP n1 && (Tk.isName r2 && (fitsP n3 && (fitsP n4 && (fitsP n5 && (fitsP n6 && true)))))) = true
      rw [f1, h2, f3, f4, f5, f6]
      rfl
    · show ((32 :: Lib.itoa n1) ++ ((32 :: r2) ++ ((32 :: Lib.itoa n3) ++ ((32 :: Lib.itoa n4) ++ ((32 :: Lib.itoa n5) ++ ((32 :: Lib.itoa n6) ++ [])))))) = _
      rw [i1, i3, i4, i5, i6]
      rfl
theorem back8 (r : List (List UInt8)) (c : Cmd) (hl : r.length = 6) (hr : ∀ w ∈ r, w.length ≤ 70000) (hc : letsP [69, 78, 68, 86, 88, 82] r (Cmd.of ⟨[100, 101, 100, 117, 99, 116, 105, 111, 110], 1, 9, [69, 78, 68, 86, 88, 82]⟩) = some c) : Back ⟨[100, 101, 100, 117, 99, 116, 105, 111, 110], 1, 9, [69, 78, 68, 86, 88, 82]⟩ r c := by
  match r, hl with
  | [r1, r2, r3, r4, r5, r6], _ =>
    simp only [letsP, lp69, lp78, lp68, lp86, lp88, lp82] at hc
    cases h1 : numO r1 with
    | none => simp only [h1, Option.map_none] at hc; cases hc
    | some n1 =>
    simp only [h1, Option.map_some] at hc
    obtain ⟨i1, a1, b1⟩ := numO_some h1
    have f1 := fits_in a1 b1
    have g1 := inR_of a1 b1
    by_cases h2 : Tk.isName r2 = true
    case neg => simp only [if_neg h2] at hc; cases hc
    simp only [if_pos h2] at hc
    cases h3 : numO r3 with
    | none => simp only [h3, Option.map_none] at hc; cases hc
    | some n3 =>
    simp only [h3, Option.map_some] at hc
    obtain ⟨i3, a3, b3⟩ := numO_some h3
    have f3 := fits_in a3 b3
    have g3 := inR_of a3 b3
    cases h4 : numO r4 with
    | none => simp only [h4, Option.map_none] at hc; cases hc
    | some n4 =>
    simp only [h4, Option.map_some] at hc
    obtain ⟨i4, a4, b4⟩ := numO_some h4
    have f4 := fits_in a4 b4
    have g4 := inR_of a4 b4
    cases h5 : numO r5 with
    | none => simp only [h5, Option.map_none] at hc; cases hc
    | some n5 =>
    simp only [h5, Option.map_some] at hc
    obtain ⟨i5, a5, b5⟩ := numO_some h5
    have f5 := fits_in a5 b5
    have g5 := inR_of a5 b5
    cases h6 : numO r6 with
    | none => simp only [h6, Option.map_none] at hc; cases hc
    | some n6 =>
    simp only [h6, Option.map_some] at hc
    obtain ⟨i6, a6, b6⟩ := numO_some h6
    have f6 := fits_in a6 b6
    have g6 := inR_of a6 b6
    obtain rfl := Option.some.inj hc
    refine ⟨by kernel_rfl, ?_, ?_, by kernel_rfl, rfl, rfl, ⟨(show inR 1 from ⟨by decide, by decide⟩), g1, (show inR 9 from ⟨by decide, by decide⟩), g3, g4, g5, g6, zero_in, zero_in, zero_in, (show (0 : Nat) < 18446744073709551616 from by decide), (Nat.le_trans (hr r2 (by simp)) (by decide)), Nat.zero_le _⟩⟩
    · show (fitsP n1 && (Tk.isName r2 && (fitsP n3 && (fitsP n4 && (fitsP n5 && (fitsP n6 && true)))))) = true
      rw [f1, h2, f3, f4, f5, f6]
      rfl
    · show ((32 :: Lib.itoa n1) ++ ((32 :: r2) ++ ((32 :: Lib.itoa n3) ++ ((32 :: Lib.itoa n4) ++ ((32 :: Lib.itoa n5) ++ ((32 :: Lib.itoa n6) ++ [])))))) = _
      rw [i1, i3, i4, i5, i6]
      rfl
theorem back9 (r : List (List UInt8)) (c : Cmd) (hl : r.length = 1) (hr : ∀ w ∈ r, w.length ≤ 70000) (hc : letsP [80] r (Cmd.of ⟨[112, 114, 101, 112, 97, 114, 101], 2, 0, [80]⟩) = some c) : Back ⟨[112, 114, 101, 112, 97, 114, 101], 2, 0, [80]⟩ r c := by
  match r, hl with
  | [r1], _ =>
    simp only [letsP, lp80] at hc
    cases h1 : numO r1 with
    | none => simp only [h1, Option.map_none] at hc; cases hc
    | some n1 =>
    simp only [h1, Option.map_some] at hc
    obtain ⟨i1, a1, b1⟩ := numO_some h1
    have f1 := fits_in a1 b1
    have g1 := inR_of a1 b1
    obtain rfl := Option.some.inj hc
    refine ⟨by kernel_rfl, ?_, ?_, by kernel_rfl, rfl, rfl, ⟨(show inR 2 from ⟨by decide, by decide⟩), zero_in, (show inR 0 from ⟨by decide, by decide⟩), zero_in, zero_in, zero_in, zero_in, g1, zero_in, zero_in, (show (0 : Nat) < 18446744073709551616 from by decide), (Nat.zero_le _), Nat.zero_le _⟩⟩
    · show (fitsP n1 && true) = true
      rw [f1]
      rfl
    · show ((32 :: Lib.itoa n1) ++ []) = _
      rw [i1]
      rfl
theorem back10 (r : List (List UInt8)) (c : Cmd) (hl : r.length = 0) (hr : ∀ w ∈ r, w.length ≤ 70000) (hc : letsP [] r (Cmd.of ⟨[114, 101, 108, 101, 97, 115, 101], 3, 0, []⟩) = some c) : Back ⟨[114, 101, 108, 101, 97, 115, 101], 3, 0, []⟩ r c := by
  match r, hl with
  | [], _ =>
    simp only [letsP] at hc
    obtain rfl := Option.some.inj hc
    refine ⟨by kernel_rfl, ?_, ?_, by kernel_rfl, rfl, rfl, ⟨(show inR 3 from ⟨by decide, by decide⟩), zero_in, (show inR 0 from ⟨by decide, by decide⟩), zero_in, zero_in, zero_in, zero_in, zero_in, zero_in, zero_in, (show (0 : Nat) < 18446744073709551616 from by decide), (Nat.zero_le _), Nat.zero_le _⟩⟩
    · show true = true
      rfl
    · show [] = _
      rfl
theorem back11 (r : List (List UInt8)) (c : Cmd) (hl : r.length = 0) (hr : ∀ w ∈ r, w.length ≤ 70000) (hc : letsP [] r (Cmd.of ⟨[112, 97, 121], 4, 0, []⟩) = some c) : Back ⟨[112, 97, 121], 4, 0, []⟩ r c := by
  match r, hl with
  | [], _ =>
    simp only [letsP] at hc
    obtain rfl := Option.some.inj hc
    refine ⟨by kernel_rfl, ?_, ?_, by kernel_rfl, rfl, rfl, ⟨(show inR 4 from ⟨by decide, by decide⟩), zero_in, (show inR 0 from ⟨by decide, by decide⟩), zero_in, zero_in, zero_in, zero_in, zero_in, zero_in, zero_in, (show (0 : Nat) < 18446744073709551616 from by decide), (Nat.zero_le _), Nat.zero_le _⟩⟩
    · show true = true
      rfl
    · show [] = _
      rfl
theorem back12 (r : List (List UInt8)) (c : Cmd) (hl : r.length = 0) (hr : ∀ w ∈ r, w.length ≤ 70000) (hc : letsP [] r (Cmd.of ⟨[114, 101, 118, 101, 114, 115, 101], 5, 0, []⟩) = some c) : Back ⟨[114, 101, 118, 101, 114, 115, 101], 5, 0, []⟩ r c := by
  match r, hl with
  | [], _ =>
    simp only [letsP] at hc
    obtain rfl := Option.some.inj hc
    refine ⟨by kernel_rfl, ?_, ?_, by kernel_rfl, rfl, rfl, ⟨(show inR 5 from ⟨by decide, by decide⟩), zero_in, (show inR 0 from ⟨by decide, by decide⟩), zero_in, zero_in, zero_in, zero_in, zero_in, zero_in, zero_in, (show (0 : Nat) < 18446744073709551616 from by decide), (Nat.zero_le _), Nat.zero_le _⟩⟩
    · show true = true
      rfl
    · show [] = _
      rfl
theorem back13 (r : List (List UInt8)) (c : Cmd) (hl : r.length = 3) (hr : ∀ w ∈ r, w.length ≤ 70000) (hc : letsP [87, 84, 83] r (Cmd.of ⟨[99, 114, 97, 115, 104], 6, 0, [87, 84, 83]⟩) = some c) : Back ⟨[99, 114, 97, 115, 104], 6, 0, [87, 84, 83]⟩ r c := by
  match r, hl with
  | [r1, r2, r3], _ =>
    simp only [letsP, lp87, lp84, lp83] at hc
    cases h1 : numO r1 with
    | none => simp only [h1] at hc; cases hc
    | some n1 =>
    simp only [h1] at hc
    by_cases p1 : 0 ≤ n1
    case neg => simp only [if_neg p1] at hc; cases hc
    simp only [if_pos p1] at hc
    obtain ⟨i1, a1, b1⟩ := numO_some h1
    cases h2 : numO r2 with
    | none => simp only [h2, Option.map_none] at hc; cases hc
    | some n2 =>
    simp only [h2, Option.map_some] at hc
    obtain ⟨i2, a2, b2⟩ := numO_some h2
    have f2 := fits_in a2 b2
    have g2 := inR_of a2 b2
    cases h3 : numO r3 with
    | none => simp only [h3, Option.map_none] at hc; cases hc
    | some n3 =>
    simp only [h3, Option.map_some] at hc
    obtain ⟨i3, a3, b3⟩ := numO_some h3
    have f3 := fits_in a3 b3
    have g3 := inR_of a3 b3
    obtain rfl := Option.some.inj hc
    refine ⟨by kernel_rfl, ?_, ?_, by kernel_rfl, rfl, rfl, ⟨(show inR 6 from ⟨by decide, by decide⟩), zero_in, (show inR 0 from ⟨by decide, by decide⟩), zero_in, zero_in, zero_in, zero_in, zero_in, g2, g3, (by show n1.toNat < 18446744073709551616; omega), (Nat.zero_le _), Nat.zero_le _⟩⟩
    · show (decide (((n1.toNat : Nat) : Int) ≤ 1000000000000000000) && (fitsP n2 && (fitsP n3 && true))) = true
      have q1 : ((n1.toNat : Nat) : Int) ≤ 1000000000000000000 := by omega
      rw [decide_eq_true q1, f2, f3]
      rfl
    · show ((32 :: Lib.decDigits n1.toNat) ++ ((32 :: Lib.itoa n2) ++ ((32 :: Lib.itoa n3) ++ []))) = _
      have d1 : Lib.decDigits n1.toNat = r1 := by
        rw [← i1]
        unfold Lib.itoa
        rw [if_neg (by omega)]
      rw [d1, i2, i3]
      rfl
theorem back_any {F : Form} {r : List (List UInt8)} {c : Cmd} (hF : F ∈ forms) (hl : r.length = F.letters.length) (hr : ∀ w ∈ r, w.length ≤ 70000) (hc : letsP F.letters r (Cmd.of F) = some c) : Back F r c := by
  unfold forms at hF
  simp only [List.mem_cons, List.not_mem_nil, or_false] at hF
  rcases hF with rfl | rfl | rfl | rfl | rfl | rfl | rfl | rfl | rfl | rfl | rfl | rfl | rfl | rfl
  · exact back0 r c hl hr hc
  · exact back1 r c hl hr hc
  · exact back2 r c hl hr hc
  · exact back3 r c hl hr hc
  · exact back4 r c hl hr hc
  · exact back5 r c hl hr hc
  · exact back6 r c hl hr hc
  · exact back7 r c hl hr hc
  · exact back8 r c hl hr hc
  · exact back9 r c hl hr hc
  · exact back10 r c hl hr hc
  · exact back11 r c hl hr hc
  · exact back12 r c hl hr hc
  · exact back13 r c hl hr hc
end Go.Proofs.YtdcbnkimjhefkaaGreatDoor

namespace Go.Proofs.YtdcbnkimjhefkaaGreatDoor
open Go.RowKit
set_option maxRecDepth 100000
def joinW : List (List UInt8) → List UInt8
  | [] => []
  | x :: r => x ++ r.flatMap fun w => 32 :: w
theorem joinW_cons (x y : List UInt8) (l : List (List UInt8)) : joinW (x :: y :: l) = x ++ 32 :: joinW (y :: l) := by
  simp [joinW]
theorem splitK_ne (k : Nat) (s : List UInt8) : ∃ x l, Lib.splitK [32] 0 k s = x :: l := by
  cases k with
  | zero => exact ⟨s, [], rfl⟩
  | succ k =>
    unfold Lib.splitK
    split
    · exact ⟨s, [], rfl⟩
    · exact ⟨_, _, rfl⟩
theorem splitK_join : ∀ (k : Nat) (s : List UInt8), joinW (Lib.splitK [32] 0 k s) = s
  | 0, s => by show s ++ [] = s; rw [List.append_nil]
  | k + 1, s => by
    rcases index_cut 32 s with ⟨h1, _⟩ | ⟨i, h1, h2⟩
    · unfold Lib.splitK
      rw [h1]
      show s ++ [] = s
      rw [List.append_nil]
    · have hc := cutP_some 32 s (by rw [h2])
      rw [h2] at hc
      have hi : ¬ ((i : Int) == -1) = true := fun e => by have := beq_iff_eq.1 e; omega
      unfold Lib.splitK
      rw [h1, if_neg hi]
      obtain ⟨x, l, hx⟩ := splitK_ne k (s.drop (((i : Int)).toNat + [(32 : UInt8)].length))
      have hj := splitK_join k (s.drop (((i : Int)).toNat + [(32 : UInt8)].length))
      rw [hx] at hj ⊢
      rw [joinW_cons, hj]
      exact hc.symm
theorem words_join (s : List UInt8) : joinW (wordsP s) = s := by
  unfold wordsP wordsB
  rw [Lib.splitB_data]
  exact splitK_join _ _
theorem read_line {s : List UInt8} {c : Cmd} (hs : s.length ≤ 70000) (h : readL s = some c) : ∃ F r, F ∈ forms ∧ Back F r c ∧ s = F.word ++ itemsP c F.letters := by
  have hj := words_join s
  have hw := fun x hx => words_byte s x hx
  unfold readL at h
  generalize wordsP s = ws at *
  cases ws with
  | nil => cases h
  | cons x r =>
  replace h : (match forms.find? (wordIs x) with
    | none => none
    | some F => if r.length = F.letters.length then letsP F.letters r (Cmd.of F) else none) = some c := h
  cases hf : forms.find? (wordIs x) with
  | none => rw [hf] at h; cases h
  | some F =>
    rw [hf] at h
    replace h : (if r.length = F.letters.length then letsP F.letters r (Cmd.of F) else none) = some c := h
    split at h
    · rename_i hl
      have hF := List.mem_of_find?_eq_some hf
      have hx : F.word = x := of_decide_eq_true (show wordIs x F = true from List.find?_some hf)
      have B := back_any hF hl (fun w hw' => Nat.le_trans (hw w (List.mem_cons_of_mem _ hw')) hs) h
      refine ⟨F, r, hF, B, ?_⟩
      rw [B.items, hx]
      exact hj.symm
    · cases h
theorem read_okC {s : List UInt8} {c : Cmd} (hs : s.length ≤ 70000) (h : readL s = some c) (hk : c.fk ≠ 5) : okC c = true ∧ textC c = s ++ [10] ∧ c.Wf := by
  obtain ⟨F, r, hF, B, he⟩ := read_line hs h
  have hf : F.fact ≠ 5 := by rw [← B.fk]; exact hk
  refine ⟨?_, ?_, B.wf⟩
  · unfold okC
    rw [B.form]
    show ((okL c F.letters && (F.fact != 5 || linedP c.txt)) && decide (leftP c F = Cmd.of F)) = true
    have h1 : leftP c F = Cmd.of F := by unfold leftP; rw [if_neg hf]; exact B.left
    have h2 : (F.fact != 5) = true := by rw [bne_iff_ne]; exact hf
    rw [B.ok, h2, decide_eq_true h1]
    rfl
  · unfold textC
    rw [B.form]
    show F.word ++ itemsP c F.letters ++ [10] ++ (if F.fact = 5 then c.txt ++ [101, 110, 100, 10] else []) = s ++ [10]
    rw [if_neg hf, List.append_nil, ← he]
theorem items_txt (t : List UInt8) (c : Cmd) (l : List UInt8) : itemsP { c with txt := t } l = itemsP c l := by
  unfold itemsP
  congr 1
theorem okL_txt (t : List UInt8) (c : Cmd) (l : List UInt8) : okL { c with txt := t } l = okL c l := by
  unfold okL
  congr 1
theorem zeroP_txt (t : List UInt8) (c : Cmd) (a : Nat) : zeroP a { c with txt := t } = { zeroP a c with txt := t } := by
  unfold zeroP zeroN
  repeat' split
  all_goals rfl
theorem rest_txt (t : List UInt8) : ∀ (l : List UInt8) (c : Cmd), restP { c with txt := t } l = { restP c l with txt := t }
  | [], _ => rfl
  | a :: l, c => by
    show restP (zeroP a.toNat { c with txt := t }) l = { restP (zeroP a.toNat c) l with txt := t }
    rw [zeroP_txt]
    exact rest_txt t l _
theorem rest_own_txt : ∀ (l : List UInt8) (c : Cmd), (restP c l).txt = c.txt
  | [], _ => rfl
  | a :: l, c => by
    show (restP (zeroP a.toNat c) l).txt = c.txt
    rw [rest_own_txt l]
    unfold zeroP zeroN
    repeat' split
    all_goals rfl
theorem read_okC5 {s t : List UInt8} {c : Cmd} (hs : s.length ≤ 70000) (h : readL s = some c) (hk : c.fk = 5) (ht : linedP t = true) (htl : t.length ≤ 70000) :
    okC { c with txt := t } = true ∧ textC { c with txt := t } = s ++ [10] ++ (t ++ [101, 110, 100, 10]) ∧ Cmd.Wf { c with txt := t } := by
  obtain ⟨F, r, hF, B, he⟩ := read_line hs h
  have hf : F.fact = 5 := by rw [← B.fk]; exact hk
  have hform : formOf { c with txt := t } = some F := B.form
  refine ⟨?_, ?_, ⟨B.wf.kind, B.wf.emp, B.wf.fk, B.wf.fr, B.wf.val, B.wf.ext, B.wf.rnk, B.wf.per, B.wf.torn, B.wf.stop, B.wf.wh, B.wf.nm, Nat.le_trans htl (by decide)⟩⟩
  · unfold okC
    rw [hform]
    show ((okL { c with txt := t } F.letters && (F.fact != 5 || linedP t)) && decide (leftP { c with txt := t } F = Cmd.of F)) = true
    have h1 : leftP { c with txt := t } F = Cmd.of F := by
      unfold leftP
      rw [if_pos hf, rest_txt]
      show { restP c F.letters with txt := [] } = Cmd.of F
      have h2 : (restP c F.letters).txt = [] := by rw [rest_own_txt]; exact B.txt
      rw [← h2]
      exact B.left
    rw [okL_txt, B.ok, ht, decide_eq_true h1, Bool.or_true]
    rfl
  · unfold textC
    rw [hform]
    show F.word ++ itemsP { c with txt := t } F.letters ++ [10] ++ (if F.fact = 5 then t ++ [101, 110, 100, 10] else []) = s ++ [10] ++ (t ++ [101, 110, 100, 10])
    rw [if_pos hf, items_txt, ← he]
theorem splitL_cut (d : UInt8) (t : List UInt8) : ∀ s : List UInt8, (cutP d s).2.2 = true → splitL d ((cutP d s).1 ++ d :: t) = ((cutP d s).1 :: (splitL d t).1, (splitL d t).2)
  | [], h => by cases h
  | c :: r, h => by
    unfold cutP at h ⊢
    split
    · show splitL d (d :: t) = ([] :: (splitL d t).1, (splitL d t).2)
      rw [splitL, if_pos rfl]
    · rename_i hc
      rw [if_neg hc] at h
      show splitL d (c :: ((cutP d r).1 ++ d :: t)) = _
      rw [splitL, if_neg hc, splitL_cut d t r h]
theorem agr_text : ∀ (n : Nat) (s acc t r : List UInt8) (k k' : Nat), agrB n s acc k = (some (t, r), k') → ∃ t2, t = acc ++ t2 ∧ s = t2 ++ ([101, 110, 100, 10] ++ r) ∧ linedP t2 = true ∧ r.length < s.length
  | 0, s, acc, t, r, k, k', h => by cases h
  | n + 1, s, acc, t, r, k, k', h => by
    unfold agrB at h
    split at h
    · rename_i hf
      have hs := cutP_some 10 s hf
      have hlt := cutP_lt 10 s hf
      split at h
      · rename_i he
        obtain ⟨h1, _⟩ := Prod.mk.inj h
        obtain ⟨rfl, rfl⟩ := Prod.mk.inj (Option.some.inj h1)
        refine ⟨[], (List.append_nil _).symm, ?_, rfl, by omega⟩
        rw [he] at hs
        exact hs
      · rename_i he
        obtain ⟨t2, rfl, h2, h3, h4⟩ := agr_text n _ _ _ _ _ _ h
        refine ⟨(cutP 10 s).1 ++ 10 :: t2, by simp, ?_, ?_, by omega⟩
        · rw [h2] at hs
          exact hs.trans (by simp)
        · rw [linedP_lines] at h3 ⊢
          rw [splitL_cut 10 t2 s hf]
          simp only [List.all_cons, decide_eq_true he, Bool.true_and]
          exact h3
    · cases h
theorem par_text : ∀ (n : Nat) (s : List UInt8) (ln : Nat) (acc l : List Cmd), s.length < n → s.length ≤ 70000 → parB n s ln acc = .ok l → ∃ l2, l = acc ++ l2 ∧ (∀ c ∈ l2, okC c = true ∧ c.Wf) ∧ s = l2.flatMap textC
  | 0, s, ln, acc, l, hn, _, _ => by omega
  | n + 1, s, ln, acc, l, hn, hs, h => by
    unfold parB at h
    split at h
    · rename_i h0
      obtain rfl : acc = l := by injection h
      exact ⟨[], (List.append_nil _).symm, fun c hc => (by cases hc), h0⟩
    · split at h
      · rename_i hf
        have hcs := cutP_some 10 s hf
        have hlt := cutP_lt 10 s hf
        generalize (cutP 10 s).1 = a at *
        generalize (cutP 10 s).2.1 = r at *
        cases hr : readL a with
        | none => rw [hr] at h; cases h
        | some c =>
          rw [hr] at h
          replace h : (if c.fk = 5 then (match agrB n r [] 0 with
            | (none, k) => .error (ln + k)
            | (some (t, r), k) => parB n r (ln + k + 1) (acc ++ [{ c with txt := t }]))
            else parB n r (ln + 1) (acc ++ [c])) = .ok l := h
          split at h
          · rename_i hk
            cases hq : agrB n r [] 0 with
            | mk q k =>
              rw [hq] at h
              cases q with
              | none => cases h
              | some tr =>
                obtain ⟨t, r2⟩ := tr
                replace h : parB n r2 (ln + k + 1) (acc ++ [{ c with txt := t }]) = .ok l := h
                obtain ⟨t2, ht2, h2, h3, h4⟩ := agr_text n r [] t r2 0 k hq
                rw [List.nil_append] at ht2
                subst ht2
                have htl : t.length ≤ 70000 := by
                  have := congrArg List.length h2
                  rw [List.length_append] at this
                  omega
                obtain ⟨l2, rfl, h5, h6⟩ := par_text n r2 _ _ _ (by omega) (by omega) h
                have B := read_okC5 (s := a) (t := t) (by omega) hr hk h3 htl
                refine ⟨{ c with txt := t } :: l2, by simp, fun x hx => ?_, ?_⟩
                · rcases List.mem_cons.1 hx with rfl | hx
                  · exact ⟨B.1, B.2.2⟩
                  · exact h5 x hx
                · rw [List.flatMap_cons, B.2.1, ← h6, hcs, h2]
                  simp
          · rename_i hk
            obtain ⟨l2, rfl, h5, h6⟩ := par_text n r _ _ _ (by omega) (by omega) h
            have B := read_okC (by omega) hr hk
            refine ⟨c :: l2, by simp, fun x hx => ?_, ?_⟩
            · rcases List.mem_cons.1 hx with rfl | hx
              · exact ⟨B.1, B.2.2⟩
              · exact h5 x hx
            · rw [List.flatMap_cons, B.2.1, ← h6, hcs]
              simp
      · cases h
theorem fmt_all : ∀ (l : List Cmd) (acc : List UInt8), (∀ c ∈ l, okC c = true) → (acc ++ l.flatMap textC).length ≤ 65536 → fmtS acc l = some (acc ++ l.flatMap textC)
  | [], acc, _, _ => by simp [fmtS]
  | c :: l, acc, h, hl => by
    have e : acc ++ (c :: l).flatMap textC = (acc ++ textC c) ++ l.flatMap textC := by simp
    rw [e] at hl ⊢
    unfold fmtS
    rw [if_pos ⟨h c (by simp), by rw [List.length_append] at hl; omega⟩]
    exact fmt_all l _ (fun x hx => h x (List.mem_cons_of_mem _ hx)) hl
/-- What is read prints to what was read. -/
theorem par_fmt {s : List UInt8} {l : List Cmd} (hs : s.length ≤ 65536) (h : parB (s.length + 1) s 1 [] = .ok l) : fmtS [] l = some s ∧ ∀ c ∈ l, c.Wf := by
  obtain ⟨l2, he, h1, h2⟩ := par_text _ _ _ _ _ (Nat.lt_succ_self _) (by omega) h
  rw [List.nil_append] at he
  subst he
  refine ⟨?_, fun c hc => (h1 c hc).2⟩
  rw [fmt_all l [] (fun c hc => (h1 c hc).1) (by rw [List.nil_append, ← h2]; exact hs), List.nil_append, ← h2]
end Go.Proofs.YtdcbnkimjhefkaaGreatDoor

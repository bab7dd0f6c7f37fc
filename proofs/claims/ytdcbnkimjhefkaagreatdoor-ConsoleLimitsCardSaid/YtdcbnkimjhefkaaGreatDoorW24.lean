/-
  write: the loop over a form's letters.
  Commands are compared.
  write: its contract.
-/
import Derived.Test.YtdcbnkimjhefkaaGreatDoorW23
import Derived.DeepKeys
namespace Go.Proofs.YtdcbnkimjhefkaaGreatDoor
open Go.RowKit
set_option maxRecDepth 100000
noncomputable def tGX : List Item := advT 60 (elseT tG6)
def eight (a : Nat) : Prop := a = 69 ∨ a = 68 ∨ a = 86 ∨ a = 88 ∨ a = 82 ∨ a = 80 ∨ a = 84 ∨ a = 83
def goodF (F : Form) : Bool := F.letters.all (fun x => x.toNat == 78 || x.toNat == 87 || x.toNat == 69 || x.toNat == 68 || x.toNat == 86 || x.toNat == 88 || x.toNat == 82 || x.toNat == 80 || x.toNat == 84 || x.toNat == 83) && (Nat.ble F.letters.length 6 && Nat.ble F.word.length 10)
theorem forms_good : forms.all goodF = true := by kernel_rfl
theorem goodF_of {c : Cmd} {F : Form} (h : formOf c = some F) : goodF F = true := List.all_eq_true.1 forms_good F (List.mem_of_find?_eq_some h)
theorem goodF_len {F : Form} (h : goodF F = true) : F.letters.length ≤ 6 ∧ F.word.length ≤ 10 := by
  unfold goodF at h
  simp only [Bool.and_eq_true] at h
  exact ⟨Nat.le_of_ble_eq_true h.2.1, Nat.le_of_ble_eq_true h.2.2⟩
theorem goodF_letter {F : Form} (h : goodF F = true) {x : UInt8} (hx : x ∈ F.letters) : x.toNat = 78 ∨ x.toNat = 87 ∨ eight x.toNat := by
  unfold goodF at h
  simp only [Bool.and_eq_true] at h
  have := List.all_eq_true.1 h.1 x hx
  simp only [Bool.or_eq_true, beq_iff_eq] at this
  unfold eight
  omega
def itemsP (c : Cmd) (l : List UInt8) : List UInt8 := l.flatMap fun x => 32 :: itemP x.toNat c
def restP (c : Cmd) (l : List UInt8) : Cmd := l.foldl (fun r x => zeroP x.toNat r) c
def okL (c : Cmd) (l : List UInt8) : Bool := l.all fun x => okP x.toNat c
theorem item_len {c : Cmd} (hc : CmdOk c) (a : Nat) : (itemP a c).length ≤ 4294967295 := by
  unfold itemP
  split
  · exact hc.nm
  · split
    · rw [Lib.decDigits_length]; have := Lib.nDigits_le20 _ hc.wh; omega
    · have := itoa_len _ (hc.num a).1 (hc.num a).2; omega
theorem items_len {c : Cmd} (hc : CmdOk c) : ∀ l : List UInt8, (itemsP c l).length ≤ l.length * 4294967296
  | [] => Nat.le_refl _
  | x :: l => by
    have := items_len hc l
    have := item_len hc x.toNat
    simp only [itemsP, List.flatMap_cons, List.length_append, List.length_cons] at *
    omega
def posOf : Option Obj → Nat
  | some (.stringIter _ p) => p
  | _ => 0
variable {w0 : World} {B b kc kf kr : Nat} {bs : List UInt8} {c : Cmd} {F : Form} {R : Ending → World → Prop}
theorem write_loop {wx : World} {E : Nat → Value} (hF : goodF F = true) (hc : CmdOk c) (h1 : kc < kf) (h2 : kf < kr) (hS : WS w0 B b (Lib.byteCells bs) [(kc, c.obj), (kf, F.obj), (kr, c.obj)] wx) (hB : Tryz.prog.globals.size ≤ B) (hC : Con w0) (hbl : bs.length ≤ 1099511627776)
    (hk : ∀ ki w' E', kr < ki → WS w0 B b (Lib.byteCells (bs ++ F.word ++ itemsP c F.letters)) (memG kc kf kr ki c (restP c F.letters) F F.letters.length) w' →
      At Tryz.prog 43 R tGX (Fr 114 (updL E' ([(0, pt b), (3, pt kc), (5, pt kf), (7, pt kr), (8, .bool (okL c F.letters))] ++ [(83, pt b)]))) w') :
    At Tryz.prog 43 R tG2 (Fr 114 (updL E [(0, pt b), (3, pt kc), (5, pt kf), (7, pt kr), (8, .bool true), (20, pt b), (22, .string ⟨⟨F.word⟩⟩)])) wx := by
  have hFl := goodF_len hF
  refine at_call 37 [.tmp 20, .tmp 22] (some 23) [pt b, .string ⟨⟨F.word⟩⟩] (by kernel_rfl) (by kernel_rfl) (by kernel_rfl) ((hS.str F.word (by omega)).mono fun e w1 hh => ?_)
  obtain ⟨rfl, S1⟩ := hh
  refine ⟨_, rfl, ?_⟩
  have mf := S1.mem (kf, F.obj) (by simp)
  refine at_run 60 (popOp tG2) w1.heap.size [⟨kf, 0, F.cells, 121, true⟩] [(0, 3)] tG3 [(0, pt b), (3, pt kc), (5, pt kf), (7, pt kr), (8, .bool true), (25, .string ⟨⟨F.letters⟩⟩)] w1.heap.size [⟨kf, 0, F.cells, 121, true⟩]
    (lies_one mf) (by kernel_rfl) fun w2 E2 hL2 hK2 => ?_
  have S2 : WS w0 B b (Lib.byteCells (bs ++ F.word)) [(kc, c.obj), (kf, F.obj), (kr, c.obj)] w2 := by
    refine S1.ran (mem := [⟨kf, 0, F.cells, 121, true⟩]) hL2 hK2 (fun e he => by rw [List.mem_singleton.1 he]; exact ⟨F.obj, by simp⟩) fun p hp => ?_
    have hlo := (S1.ok (kf, F.obj) (by simp)).1
    simp only [List.mem_cons, List.not_mem_nil, or_false] at hp
    rcases hp with rfl | rfl | rfl
    · exact .inl ⟨by simp, fun e he => by rw [List.mem_singleton.1 he]; show kf ≠ kc; omega⟩
    · exact .inr ⟨_, _, rfl, (by decide), hlo, List.mem_singleton.2 rfl⟩
    · exact .inl ⟨by simp, fun e he => by rw [List.mem_singleton.1 he]; show kf ≠ kr; omega⟩
  have hki : kr < w2.heap.size := S2.lt (p := (kr, c.obj)) (by simp)
  refine at_range 9 ⟨⟨F.letters⟩⟩ (some 26) (by kernel_rfl) (by kernel_rfl) ?_
  generalize hkiE : w2.heap.size = ki at hki
  have S3 : WS w0 B b (Lib.byteCells (bs ++ F.word)) (memG kc kf kr ki c c F 0) (w2.alloc (.stringIter ⟨⟨F.letters⟩⟩ 0)) := by
    have hb : Below w2.heap.size w2 (w2.alloc (.stringIter ⟨⟨F.letters⟩⟩ 0)) := (Below.refl _ _).alloc (Nat.le_refl _) _
    have S := (S2.below hb).more ki (.stringIter ⟨⟨F.letters⟩⟩ 0) (by rw [← hkiE]; exact Go.heap_alloc_new w2 _) (by have := S2.size; omega) (iter_notB _ _)
    exact ⟨S.bld, S.bel, S.oth, fun p hp => S.mem p (by simp at hp ⊢; rcases hp with h | h | h | h <;> simp [h]), fun p hp => S.ok p (by simp at hp ⊢; rcases hp with h | h | h | h <;> simp [h]), S.lo, S.Bb⟩
  generalize w2.alloc (.stringIter ⟨⟨F.letters⟩⟩ 0) = w3 at S3 ⊢
  refine at_run 60 (popOp tG3) w3.heap.size [] [] tG4 (envG b kc kf kr ki true) w3.heap.size [] (lies_nil w3) (by kernel_rfl) fun w4 E4 hL4 hK4 => ?_
  have S4 := S3.below (hK4.below (Nat.le_refl _) (fun k hk => by cases hk))
  refine at_loop (by kernel_rfl) (fun E wx => ∃ (i : Nat) (E0 : Nat → Value), i ≤ F.letters.length ∧ E = updL E0 (envG b kc kf kr ki (okL c (F.letters.take i))) ∧ WS w0 B b (Lib.byteCells (bs ++ F.word ++ itemsP c (F.letters.take i))) (memG kc kf kr ki c (restP c (F.letters.take i)) F i) wx)
    (fun _ w => F.letters.length - posOf w.heap[ki]?) ⟨0, E4, Nat.zero_le _, rfl, by simpa [itemsP, restP] using S4⟩ ?_
  rintro E wx ⟨i, E0, hi, rfl, S⟩ hagain
  generalize hok : okL c (F.letters.take i) = ok at *
  generalize hrest : restP c (F.letters.take i) = rest at *
  generalize htx : bs ++ F.word ++ itemsP c (F.letters.take i) = tx at *
  have htl : tx.length ≤ 1099511627776 + 10 + 6 * 4294967296 := by
    have := items_len hc (F.letters.take i)
    have h6 : (F.letters.take i).length ≤ 6 := by simp; omega
    rw [← htx]
    simp only [List.length_append]
    have : (F.letters.take i).length * 4294967296 ≤ 6 * 4294967296 := Nat.mul_le_mul_right _ h6
    omega
  refine at_run 60 (bodyT tG4) wx.heap.size [] [] tG5 (envG b kc kf kr ki ok) wx.heap.size [] (lies_nil wx) (by kernel_rfl) fun w5 E5 hL5 hK5 => ?_
  have S5 := S.below (hK5.below (Nat.le_refl _) (fun k hk => by cases hk))
  by_cases hlt : i < F.letters.length
  · have hx : F.letters[i] ∈ F.letters := List.getElem_mem hlt
    have hlet := goodF_letter hF hx
    have htake : F.letters.take (i + 1) = F.letters.take i ++ [F.letters[i]] := by rw [List.take_add_one, List.getElem?_eq_getElem hlt]; rfl
    have hdec : Utf8.decode ⟨⟨F.letters⟩⟩ i = ((F.letters[i]).toNat, 1) := Go.decode_ascii ⟨⟨F.letters⟩⟩ i hlt (by
      show (F.letters[i]).toNat < 128
      unfold eight at hlet
      omega)
    have hpos : posOf wx.heap[ki]? = i := by rw [S.itr]; rfl
    generalize hxe : F.letters[i] = x at *
    have hnext : ∀ (tx' : List UInt8) (rest' : Cmd) (ok' : Bool), tx' = tx ++ 32 :: itemP x.toNat c → rest' = zeroP x.toNat rest → ok' = (ok && okP x.toNat c) → ∀ w' E', WS w0 B b (Lib.byteCells tx') (memG kc kf kr ki c rest' F (i + 1)) w' →
        At Tryz.prog 43 R (againT tG4) (Fr 114 (updL E' (envG b kc kf kr ki ok'))) w' := by
      intro tx' rest' ok' e1 e2 e3 w' E' hS'
      subst e1 e2 e3
      refine hagain _ _ ⟨i + 1, E', hlt, ?_, ?_⟩ ?_
      · rw [htake]
        unfold okL at hok ⊢
        rw [List.all_append, hok]
        simp
      · rw [htake]
        have e4 : bs ++ F.word ++ itemsP c (F.letters.take i ++ [x]) = tx ++ 32 :: itemP x.toNat c := by
          rw [← htx]
          simp [itemsP]
        have e5 : restP c (F.letters.take i ++ [x]) = zeroP x.toNat rest := by
          rw [← hrest]
          simp [restP]
        rw [e4, e5]
        exact hS'
      · show F.letters.length - posOf w'.heap[ki]? < F.letters.length - posOf wx.heap[ki]?
        rw [hpos, hS'.itr]
        show F.letters.length - (i + 1) < F.letters.length - i
        omega
    generalize hae : x.toNat = a at *
    refine at_next ki ⟨⟨F.letters⟩⟩ i a (some 27) (by kernel_rfl) S5.itr hlt hdec ?_
    have S6 : WS w0 B b (Lib.byteCells tx) (memG kc kf kr ki c rest F (i + 1)) { w5 with heap := w5.heap.setIfInBounds ki (.stringIter ⟨⟨F.letters⟩⟩ (i + 1)) } := by
      have hkl : ki < w5.heap.size := (Array.getElem?_eq_some_iff.1 S5.itr).1
      have hlo := (S5.ok (ki, .stringIter ⟨⟨F.letters⟩⟩ i) (by simp)).1
      refine S5.kept (O := [ki]) ⟨rfl, rfl, rfl, by simp, fun k hk hn => ?_⟩ (fun k hk => by rw [List.mem_singleton.1 hk]; exact ⟨.stringIter ⟨⟨F.letters⟩⟩ i, by simp⟩) (fun p hp => ?_) fun p hp => ?_
      · have hne : ki ≠ k := fun e => hn (by simp [e])
        show (w5.heap.setIfInBounds ki _)[k]? = _
        rw [Array.getElem?_setIfInBounds_ne hne]
      · show (w5.heap.setIfInBounds ki _)[p.1]? = _
        simp only [List.mem_cons, List.not_mem_nil, or_false] at hp
        rcases hp with rfl | rfl | rfl | rfl
        · rw [Array.getElem?_setIfInBounds_ne (by show ki ≠ kc; omega)]; exact S5.cmd
        · rw [Array.getElem?_setIfInBounds_ne (by show ki ≠ kf; omega)]; exact S5.form
        · rw [Array.getElem?_setIfInBounds_ne (by show ki ≠ kr; omega)]; exact S5.rst
        · simp [hkl]
      · simp only [List.mem_cons, List.not_mem_nil, or_false] at hp
        rcases hp with rfl | rfl | rfl | rfl
        · exact S5.ok (kc, c.obj) (by simp)
        · exact S5.ok (kf, F.obj) (by simp)
        · exact S5.ok (kr, rest.obj) (by simp)
        · exact ⟨hlo, iter_notB _ _⟩
    generalize ({ w5 with heap := w5.heap.setIfInBounds ki (.stringIter ⟨⟨F.letters⟩⟩ (i + 1)) } : World) = w6 at S6 ⊢
    refine at_run 60 (popOp tG5) w6.heap.size [] [] tG6 (envG b kc kf kr ki ok ++ [(27, .tuple #[.bool true, .int .i64 i, .int .i32 a]), (28, .bool true)]) w6.heap.size [] (lies_nil w6) (by kernel_rfl) fun w7 E7 hL7 hK7 => ?_
    have S7 := S6.below (hK7.below (Nat.le_refl _) (fun k hk => by cases hk))
    refine at_cond true (by kernel_rfl) (fun _ => ?_) (fun h => nomatch h)
    refine at_run 60 (thenT tG6) w7.heap.size [] [] tG7 (envG b kc kf kr ki ok ++ [(10, .int .i32 a), (30, pt b)]) w7.heap.size [] (lies_nil w7) (by kernel_rfl) fun w8 E8 hL8 hK8 => ?_
    have S8 := S7.below (hK8.below (Nat.le_refl _) (fun k hk => by cases hk))
    refine at_call 74 [.tmp 30, .const (.int .u8 32)] (some 31) [pt b, .int .u8 32] (by kernel_rfl) (by kernel_rfl) (by kernel_rfl) ((S8.byte 32 (by omega)).mono fun e w9 hh => ?_)
    obtain ⟨rfl, S9⟩ := hh
    refine ⟨_, rfl, ?_⟩
    have htl2 : (tx ++ [32]).length ≤ 70368744177664 := by simp; omega
    rcases hlet with rfl | rfl | ha
    · refine at_run 60 (popOp tG7) w9.heap.size [] [] tG8 (envG b kc kf kr ki ok ++ [(53, .bool true)]) w9.heap.size [] (lies_nil w9) (by kernel_rfl) fun w10 E10 hL10 hK10 => ?_
      have S10 := S9.below (hK10.below (Nat.le_refl _) (fun k hk => by cases hk))
      refine at_cond true (by kernel_rfl) (fun _ => ?_) (fun h => nomatch h)
      refine at_run (cntG 90 (thenT tG8)) (thenT tG8) w10.heap.size [] [] tGN (envG b kc kf kr ki ok) w10.heap.size [] (lies_nil w10) (by kernel_rfl) fun w11 E11 hL11 hK11 => ?_
      have S11 := S10.below (hK11.below (Nat.le_refl _) (fun k hk => by cases hk))
      exact letter_N ok hc h1 h2 hki S11 hB htl2 fun w' E' h' => hnext _ _ _ (by simp [itemP]) (by simp [zeroP]) (by simp [okP]) w' E' h'
    · refine at_run 60 (popOp tG7) w9.heap.size [] [] tG8 (envG b kc kf kr ki ok ++ [(32, .int .i32 87), (53, .bool false)]) w9.heap.size [] (lies_nil w9) (by kernel_rfl) fun w10 E10 hL10 hK10 => ?_
      have S10 := S9.below (hK10.below (Nat.le_refl _) (fun k hk => by cases hk))
      refine at_cond false (by kernel_rfl) (fun h => nomatch h) fun _ => ?_
      refine at_run 60 (elseT tG8) w10.heap.size [] [] tGm (envG b kc kf kr ki ok ++ [(69, .bool true)]) w10.heap.size [] (lies_nil w10) (by kernel_rfl) fun w11 E11 hL11 hK11 => ?_
      have S11 := S10.below (hK11.below (Nat.le_refl _) (fun k hk => by cases hk))
      refine at_cond true (by kernel_rfl) (fun _ => ?_) (fun h => nomatch h)
      refine at_run (cntG 90 (thenT tGm)) (thenT tGm) w11.heap.size [] [] tGW (envG b kc kf kr ki ok) w11.heap.size [] (lies_nil w11) (by kernel_rfl) fun w12 E12 hL12 hK12 => ?_
      have S12 := S11.below (hK12.below (Nat.le_refl _) (fun k hk => by cases hk))
      exact letter_W ok hc h1 h2 hki S12 hB hC htl2 fun w' E' h' => hnext _ _ _ (by simp [itemP]) (by simp [zeroP]) (by simp [okP]) w' E' h'
    · have n1 : a ≠ 78 ∧ a ≠ 87 := by unfold eight at ha; omega
      have q1 : ((a : Int) == 78) = false := by simpa using (by omega : (a : Int) ≠ 78)
      have q2 : ((a : Int) == 87) = false := by simpa using (by omega : (a : Int) ≠ 87)
      refine at_run 60 (popOp tG7) w9.heap.size [] [] tG8 (envG b kc kf kr ki ok ++ [(10, .int .i32 a), (32, .int .i32 a), (53, .bool ((a : Int) == 78))]) w9.heap.size [] (lies_nil w9) (by kernel_rfl) fun w10 E10 hL10 hK10 => ?_
      have S10 := S9.below (hK10.below (Nat.le_refl _) (fun k hk => by cases hk))
      refine at_cond ((a : Int) == 78) (by kernel_rfl) (fun h => by rw [q1] at h; cases h) fun _ => ?_
      refine at_run 60 (elseT tG8) w10.heap.size [] [] tGm (envG b kc kf kr ki ok ++ [(10, .int .i32 a), (69, .bool ((a : Int) == 87))]) w10.heap.size [] (lies_nil w10) (by kernel_rfl) fun w11 E11 hL11 hK11 => ?_
      have S11 := S10.below (hK11.below (Nat.le_refl _) (fun k hk => by cases hk))
      refine at_cond ((a : Int) == 87) (by kernel_rfl) (fun h => by rw [q2] at h; cases h) fun _ => ?_
      refine at_run 60 (elseT tGm) w11.heap.size [] [] tGD (envG b kc kf kr ki ok ++ [(10, .int .i32 a), (33, .int .i32 a)]) w11.heap.size [] (lies_nil w11) (by kernel_rfl) fun w12 E12 hL12 hK12 => ?_
      have S12 := S11.below (hK12.below (Nat.le_refl _) (fun k hk => by cases hk))
      exact letter_D ok a ha hc h1 h2 hki S12 hB hC htl2 fun w' E' h' => hnext _ _ _ (by simp [itemP, n1]) (by simp [zeroP, n1]) (by simp [okP, n1]) w' E' h'
  · have hil : i = F.letters.length := by omega
    have hall : F.letters.take i = F.letters := by rw [hil, List.take_length]
    refine at_over ki ⟨⟨F.letters⟩⟩ i (some 27) (by kernel_rfl) S5.itr hlt ?_
    refine at_run 60 (popOp tG5) w5.heap.size [] [] tG6 (envG b kc kf kr ki ok ++ [(28, .bool false)]) w5.heap.size [] (lies_nil w5) (by kernel_rfl) fun w7 E7 hL7 hK7 => ?_
    have S7 := S5.below (hK7.below (Nat.le_refl _) (fun k hk => by cases hk))
    refine at_cond false (by kernel_rfl) (fun h => nomatch h) fun _ => ?_
    refine at_run 60 (elseT tG6) w7.heap.size [] [] tGX ([(0, pt b), (3, pt kc), (5, pt kf), (7, pt kr), (8, .bool ok)] ++ [(83, pt b)]) w7.heap.size [] (lies_nil w7) (by kernel_rfl) fun w8 E8 hL8 hK8 => ?_
    have S8 := S7.below (hK8.below (Nat.le_refl _) (fun k hk => by cases hk))
    rw [hall] at hok hrest htx
    subst hok hrest htx
    rw [hil] at S8
    exact hk ki w8 E8 hki S8
end Go.Proofs.YtdcbnkimjhefkaaGreatDoor

namespace Go.Proofs.YtdcbnkimjhefkaaGreatDoor
open Go.RowKit
set_option maxRecDepth 100000
def inR (n : Int) : Prop := -9223372036854775808 ≤ n ∧ n ≤ 9223372036854775807
structure Cmd.Wf (c : Cmd) : Prop where
  kind : inR c.kind
  emp : inR c.emp
  fk : inR c.fk
  fr : inR c.fr
  val : inR c.val
  ext : inR c.ext
  rnk : inR c.rnk
  per : inR c.per
  torn : inR c.torn
  stop : inR c.stop
  wh : c.wh < 18446744073709551616
  nm : c.nm.length ≤ 4294967295
  txt : c.txt.length ≤ 4294967200
theorem Cmd.Wf.num {c : Cmd} (h : c.Wf) (a : Nat) : inR (numP a c) := by
  unfold numP
  repeat' split
  · exact h.emp
  · exact h.fr
  · exact h.val
  · exact h.ext
  · exact h.rnk
  · exact h.per
  · exact h.torn
  · exact h.stop
theorem Cmd.Wf.ok {c : Cmd} (h : c.Wf) : CmdOk c := ⟨h.num, h.wh, h.nm, h.txt⟩
def Cmd.lits (c : Cmd) : List Lit := [.int .i64 c.kind, .int .i64 c.emp, .int .i64 c.fk, .int .i64 c.fr, .string c.nm, .int .i64 c.val, .int .i64 c.ext, .int .i64 c.rnk, .string c.txt, .int .i64 c.per, .int .u64 c.wh, .int .i64 c.torn, .int .i64 c.stop]
theorem wf_int (n : Int) (h : -9223372036854775808 ≤ n ∧ n ≤ 9223372036854775807) : (Lit.int .i64 n).wf = true := by
  simp [Lit.wf, IntKind.min, IntKind.max, IntKind.signed, IntKind.bits]
  omega
theorem wf_u64 (n : Nat) (h : n < 18446744073709551616) : (Lit.int .u64 (n : Int)).wf = true := by
  simp [Lit.wf, IntKind.min, IntKind.max, IntKind.signed, IntKind.bits]
  omega
theorem sz_str (l : List UInt8) (h : l.length ≤ 4294967295) : (⟨⟨l⟩⟩ : ByteArray).size ≤ maxLen := by unfold maxLen; show l.length ≤ _; omega
theorem cz_int : Tryz.prog.cellsOf 3 = 1 := by kernel_rfl
theorem cz_u64 : Tryz.prog.cellsOf 62 = 1 := by kernel_rfl
theorem cz_str : Tryz.prog.cellsOf 9 = 1 := by kernel_rfl
theorem cz_fact : Tryz.prog.cellsOf 61 = 8 := by kernel_rfl
theorem cz_cmd : Tryz.prog.cellsOf 64 = 13 := by kernel_rfl
theorem cmd_lits (c : Cmd) (h : c.Wf) : Tryz.prog.keyLits 4 64 c.cells = some c.lits := by
  simp [Program.keyLits, Tryz.underlying64, Tryz.underlying61, Tryz.underlying3, Tryz.underlying62, Tryz.underlying9, cz_fact, cz_int, cz_str, cz_u64, cz_cmd, Cmd.cells, Cmd.lits, wf_int _ h.kind, wf_int _ h.fk, wf_int _ h.emp, wf_int _ h.fr, wf_int _ h.val, wf_int _ h.ext, wf_int _ h.rnk, wf_int _ h.per, wf_int _ h.torn, wf_int _ h.stop, wf_u64 _ h.wh, sz_str _ h.nm, sz_str c.txt (by have := h.txt; omega)]
  rw [if_pos (by decide)]
  rfl
theorem lits_inj {x y : Cmd} : x.lits = y.lits ↔ x = y := by
  constructor
  · intro h
    cases x; cases y
    simp only [Cmd.lits, List.cons.injEq, Lit.int.injEq, Lit.string.injEq, true_and, and_true, Int.natCast_inj] at h
    simp only [Cmd.mk.injEq]
    exact h
  · intro h
    rw [h]
theorem run_cmd_eq (x y : Cmd) (hx : x.Wf) (hy : y.Wf) (w : World) : (Op.equal 64 (.agg ⟨x.cells⟩) (.agg ⟨y.cells⟩)).run Tryz.prog w = .ok (decide (x = y)) w := by
  obtain ⟨r, hr, hiff⟩ := run_equalIn_deep 9997 3 64 (by kernel_rfl) w 4 4 (.agg ⟨x.cells⟩) (.agg ⟨y.cells⟩) x.lits y.lits (by kernel_rfl) (by kernel_rfl) (cmd_lits x hx) (cmd_lits y hy)
  have e : r = decide (x = y) := by
    rw [lits_inj] at hiff
    by_cases hxy : x = y
    · rw [decide_eq_true hxy]; exact hiff.2 hxy
    · rw [decide_eq_false hxy]; cases r with
      | false => rfl
      | true => exact absurd (hiff.1 rfl) hxy
  rw [← e]
  exact hr
end Go.Proofs.YtdcbnkimjhefkaaGreatDoor

namespace Go.Proofs.YtdcbnkimjhefkaaGreatDoor
open Go.RowKit
set_option maxRecDepth 100000
section
variable {P : Program} {f : FuncId} {R : Ending → World → Prop}
def curAdd (n : Nat) (E : Nat → Value) (todo : List Item) : Option (ByteArray × ByteArray × Option Tmp) := match curOp n E todo with
  | some o => match o.op with
    | .binOp .add _ x y _ => match evE n E x, evE n E y with
      | .string a, .string b => some (a, b, o.dst)
      | _, _ => none
    | _ => none
  | none => none
theorem at_add {n : Nat} {todo : List Item} {E : Nat → Value} {w : World} (a b : ByteArray) (dst : Option Tmp) (hc : curAdd n E todo = some (a, b, dst)) (hs : ((a.size + b.size : Nat) : Int) ≤ IntKind.i64.max) (h : At P f R (popOp todo) (Fr n (updO E dst (.string (a ++ b)))) w) : At P f R todo (Fr n E) w := by
  unfold curAdd at hc
  split at hc
  · rename_i o hcur
    split at hc
    · rename_i T x y T' ho
      split at hc
      · rename_i a' b' hx hy
        simp only [Option.some.injEq, Prod.mk.injEq] at hc
        obtain ⟨rfl, rfl, rfl⟩ := hc
        exact at_op o hcur (v := .string (a' ++ b')) (w' := w) (exec_add ho hx hy hs) h
      · cases hc
    · cases hc
  · cases hc
end
theorem exec_eq {P : Program} {o : Oper} {ρ : Operand → Value} {w : World} {T T' : TypeId} {x y : Operand} {a b : Array Value} {r : Bool} (hop : o.op = .binOp .eql T x y T') (hx : ρ x = .agg a) (hy : ρ y = .agg b) (hg : (eqGuard .eql T x y (.agg a) (.agg b)).run P w = .ok () w)
    (he : (Op.equal T (.agg a) (.agg b)).run P w = .ok r w) : (execOp ρ o).run P w = .ok (.value (.bool r)) w := by
  unfold execOp
  simp only [hop, hx, hy]
  unfold binOp
  simp [Sem.run_bind, hg, he, Result.andThen]
def Cmd.of (F : Form) : Cmd := ⟨F.kind, 0, F.fact, 0, [], 0, 0, 0, [], 0, 0, 0, 0⟩
def linesP (c : Cmd) (F : Form) : List UInt8 := F.word ++ itemsP c F.letters ++ [10] ++ (if F.fact = 5 then c.txt ++ [101, 110, 100, 10] else [])
def leftP (c : Cmd) (F : Form) : Cmd := if F.fact = 5 then { restP c F.letters with txt := [] } else restP c F.letters
def okF (c : Cmd) (F : Form) : Bool := (okL c F.letters && (F.fact != 5 || linedP c.txt)) && decide (leftP c F = Cmd.of F)
theorem zero_in : inR 0 := ⟨by decide, by decide⟩
theorem zeroP_wf {c : Cmd} (h : c.Wf) (a : Nat) : (zeroP a c).Wf := by
  unfold zeroP zeroN
  repeat' split
  all_goals
    refine ⟨?_, ?_, ?_, ?_, ?_, ?_, ?_, ?_, ?_, ?_, ?_, ?_, ?_⟩
    all_goals first
      | exact h.kind
      | exact h.emp
      | exact h.fk
      | exact h.fr
      | exact h.val
      | exact h.ext
      | exact h.rnk
      | exact h.per
      | exact h.torn
      | exact h.stop
      | exact h.wh
      | exact h.nm
      | exact h.txt
      | exact zero_in
      | exact (by decide : (0 : Nat) < 18446744073709551616)
      | exact (Nat.zero_le _ : ([] : List UInt8).length ≤ 4294967295)
theorem restP_wf {c : Cmd} (h : c.Wf) : ∀ l : List UInt8, (restP c l).Wf := by
  intro l
  unfold restP
  suffices ∀ (l : List UInt8) (r : Cmd), r.Wf → (l.foldl (fun r x => zeroP x.toNat r) r).Wf from this l c h
  intro l
  induction l with
  | nil => intro r hr; exact hr
  | cons x l ih => intro r hr; exact ih _ (zeroP_wf hr _)
theorem of_wf {F : Form} (h : inR F.kind ∧ inR F.fact) : (Cmd.of F).Wf := ⟨h.1, zero_in, h.2, zero_in, zero_in, zero_in, zero_in, zero_in, zero_in, zero_in, (by decide : (0 : Nat) < 18446744073709551616), Nat.zero_le _, Nat.zero_le _⟩
noncomputable def tGY : List Item := advT 60 (popOp tGX)
noncomputable def tGZ : List Item := advG (thenT tGY)
noncomputable def tGZ1 : List Item := advT 6 (tailT tGZ)
noncomputable def tGE : List Item := advG (elseT tGY)
variable {w0 : World} {B b kc kf kr ki i : Nat} {bs : List UInt8} {c rest : Cmd} {F : Form} {R : Ending → World → Prop}
theorem write_end {wx : World} {E : Nat → Value} (ok : Bool) (hr : rest.Wf) (hF : inR F.kind ∧ inR F.fact) (hS : WS w0 B b (Lib.byteCells bs) (memG kc kf kr ki c rest F i) wx)
    (hk : ∀ w', WS w0 B b (Lib.byteCells bs) (memG kc kf kr ki c rest F i) w' → R (.returned (.bool (ok && decide (rest = Cmd.of F)))) w') :
    At Tryz.prog 43 R tGE (Fr 114 (updL E [(5, pt kf), (7, pt kr), (8, .bool ok)])) wx := by
  refine at_ghost ((curReg tGE).getD #[]) ⟨[⟨kf, 0, F.cells, 121, true⟩, ⟨kr, 0, rest.cells, 64, true⟩], [(2, 1, 0), (4, 0, 1), (6, 0, 2)], [⟨9, [(105, .agg ⟨rest.cells⟩), (111, .agg ⟨(Cmd.of F).cells⟩)], .bool (decide (rest = Cmd.of F)), (ok && true)⟩]⟩ [(4, .bool (ok && decide (rest = Cmd.of F)))] (by kernel_rfl) (by kernel_rfl) (by kernel_rfl)
    (fun e he => ?_) (fun sp hsp => ?_) (fun X => by kernel_rfl) (by kernel_rfl) fun w1 E1 B1 => ?_
  · simp only [List.mem_cons, List.not_mem_nil, or_false] at he
    rcases he with rfl | rfl
    · exact good_own hS.form
    · exact good_own hS.rst
  · rw [List.mem_singleton.1 hsp]
    refine spec_op fun _ E w _ => ?_
    exact exec_eq (T := 64) (T' := 64) (x := .tmp 105) (y := .tmp 111) (by kernel_rfl) (by kernel_rfl) (by kernel_rfl) (by kernel_rfl) (run_cmd_eq rest (Cmd.of F) hr (of_wf hF) w)
  have S1 := hS.below B1
  exact at_endT (fn := Tryz.f43) 60 (.bool (ok && decide (rest = Cmd.of F))) (by kernel_rfl) (by kernel_rfl) fun w3 B3 => hk w3 (S1.below B3)
theorem forms_in : forms.all (fun F => decide (-9223372036854775808 ≤ F.kind) && decide (F.kind ≤ 9223372036854775807) && (decide (-9223372036854775808 ≤ F.fact) && decide (F.fact ≤ 9223372036854775807))) = true := by kernel_rfl
theorem form_in {c : Cmd} {F : Form} (h : formOf c = some F) : inR F.kind ∧ inR F.fact := by
  have := List.all_eq_true.1 forms_in F (List.mem_of_find?_eq_some h)
  simp only [Bool.and_eq_true, decide_eq_true_eq] at this
  exact ⟨⟨this.1.1, this.1.2⟩, ⟨this.2.1, this.2.2⟩⟩
theorem write_tail {wx : World} {E : Nat → Value} (hc : c.Wf) (hF : goodF F = true) (hFi : inR F.kind ∧ inR F.fact) (h1 : kc < kf) (h2 : kf < kr) (h3 : kr < ki) (hC : Con w0) (hB : Tryz.prog.globals.size ≤ B) (hbl : bs.length ≤ 1099511627776)
    (hS : WS w0 B b (Lib.byteCells (bs ++ F.word ++ itemsP c F.letters)) (memG kc kf kr ki c (restP c F.letters) F i) wx)
    (hk : ∀ w' ms, WS w0 B b (Lib.byteCells (bs ++ linesP c F)) ms w' → R (.returned (.bool (okF c F))) w') :
    At Tryz.prog 43 R tGX (Fr 114 (updL E ([(0, pt b), (3, pt kc), (5, pt kf), (7, pt kr), (8, .bool (okL c F.letters))] ++ [(83, pt b)]))) wx := by
  have hFl := goodF_len hF
  have hil : (itemsP c F.letters).length ≤ 25769803776 := Nat.le_trans (items_len hc.ok F.letters) (Nat.le_trans (Nat.mul_le_mul_right _ hFl.1) (Nat.le_of_ble_eq_true rfl))
  generalize hok : okL c F.letters = ok at *
  generalize htx : bs ++ F.word ++ itemsP c F.letters = tx at *
  have htl : tx.length ≤ 1125281431562 := by
    rw [← htx]
    simp only [List.length_append]
    omega
  have hrw := restP_wf hc F.letters
  refine at_call 74 [.tmp 83, .const (.int .u8 10)] (some 84) [pt b, .int .u8 10] (by kernel_rfl) (by kernel_rfl) (by kernel_rfl) ((hS.byte 10 (by omega)).mono fun e w1 hh => ?_)
  obtain ⟨rfl, S1⟩ := hh
  refine ⟨_, rfl, ?_⟩
  refine at_run 60 (popOp tGX) w1.heap.size [⟨kf, 0, F.cells, 121, true⟩] [(0, 2)] tGY [(0, pt b), (3, pt kc), (5, pt kf), (7, pt kr), (8, .bool ok), (87, .bool (F.fact == 5))] w1.heap.size [⟨kf, 0, F.cells, 121, true⟩]
    (lies_one S1.form) (by kernel_rfl) fun w2 E2 hL2 hK2 => ?_
  have S2 := S1.ranF h1 h2 h3 hL2 hK2
  refine at_cond (F.fact == 5) (by kernel_rfl) (fun h5 => ?_) (fun h5 => ?_)
  · have e5 : F.fact = 5 := by simpa using h5
    refine at_run (cntG 90 (thenT tGY)) (thenT tGY) w2.heap.size [] [] tGZ [(0, pt b), (3, pt kc), (5, pt kf), (7, pt kr), (8, .bool ok)] w2.heap.size [] (lies_nil w2) (by kernel_rfl) fun w3 E3 hL3 hK3 => ?_
    have S3 := S2.below (hK3.below (Nat.le_refl _) (fun k hk => by cases hk))
    refine at_ghost ((curReg tGZ).getD #[]) ⟨[⟨kc, 0, c.cells, 64, true⟩], [(4, 0, 8)], [⟨5, [(92, .string ⟨⟨c.txt⟩⟩)], .bool (linedP c.txt), (ok && true)⟩]⟩ [(0, pt b), (3, pt kc), (5, pt kf), (7, pt kr), (8, .bool (ok && linedP c.txt))] (by kernel_rfl) (by kernel_rfl) (by kernel_rfl)
      (fun e he => by rw [List.mem_singleton.1 he]; exact good_own S3.cmd) (fun sp hsp => ?_) (fun X => by kernel_rfl) (by kernel_rfl) fun w4 E4 B4 => ?_
    · rw [List.mem_singleton.1 hsp]
      have hC3 := hC.below hB S3.bel
      refine spec_call 76 [.tmp 92] [.string ⟨⟨c.txt⟩⟩] (by kernel_rfl) (by kernel_rfl) (fun E => by kernel_rfl) fun hc1 u hu => ?_
      obtain ⟨⟨m, hm⟩, _⟩ := hC3.len.below hu
      exact (lined_any c.txt m u (by have := hc.txt; omega) hm).mono fun e w' h => ⟨h.1, h.2 ▸ hu⟩
    have S4 := S3.below B4
    refine at_run 6 (tailT tGZ) w4.heap.size [⟨kc, 0, c.cells, 64, true⟩] [(0, 8)] tGZ1 [(0, pt b), (3, pt kc), (5, pt kf), (7, pt kr), (8, .bool (ok && linedP c.txt)), (95, pt b), (98, .string ⟨⟨c.txt⟩⟩)] w4.heap.size [⟨kc, 0, c.cells, 64, true⟩]
      (lies_one S4.cmd) (by kernel_rfl) fun w5 E5 hL5 hK5 => ?_
    have S5 := S4.ranC h1 h2 h3 hL5 hK5
    refine at_add ⟨⟨c.txt⟩⟩ ⟨⟨[101, 110, 100, 10]⟩⟩ (some 99) (by kernel_rfl) ?_ ?_
    · have := hc.txt
      have e1 : (⟨⟨c.txt⟩⟩ : ByteArray).size = c.txt.length := rfl
      have e2 : (⟨⟨[101, 110, 100, 10]⟩⟩ : ByteArray).size = 4 := rfl
      have h3 : IntKind.i64.max = 9223372036854775807 := by decide
      rw [e1, e2, h3]
      omega
    have e9 : (⟨⟨c.txt⟩⟩ : ByteArray) ++ ⟨⟨[101, 110, 100, 10]⟩⟩ = ⟨⟨c.txt ++ [101, 110, 100, 10]⟩⟩ := by
      apply ByteArray.ext
      simp
    rw [e9]
    refine at_call 37 [.tmp 95, .tmp 99] (some 100) [pt b, .string ⟨⟨c.txt ++ [101, 110, 100, 10]⟩⟩] (by kernel_rfl) (by kernel_rfl) (by kernel_rfl) ((S5.str (c.txt ++ [101, 110, 100, 10]) (by have := hc.txt; simp; omega)).mono fun e w6 hh => ?_)
    obtain ⟨rfl, S6⟩ := hh
    refine ⟨_, rfl, ?_⟩
    refine at_run (cntG 90 (popOp (popOp tGZ1))) (popOp (popOp tGZ1)) w6.heap.size [⟨kr, 0, (restP c F.letters).cells, 64, true⟩] [(0, 8)] tGE [(5, pt kf), (7, pt kr), (8, .bool (ok && linedP c.txt))] w6.heap.size [⟨kr, 0, { restP c F.letters with txt := [] }.cells, 64, true⟩]
      (lies_one S6.rst) (by kernel_rfl) fun w7 E7 hL7 hK7 => ?_
    have S7 := S6.ranR h1 h2 h3 hL7 hK7
    refine write_end (rest := { restP c F.letters with txt := [] }) (ok && linedP c.txt) ⟨hrw.kind, hrw.emp, hrw.fk, hrw.fr, hrw.val, hrw.ext, hrw.rnk, hrw.per, hrw.torn, hrw.stop, hrw.wh, hrw.nm, Nat.zero_le _⟩ hFi S7 fun w' S' => ?_
    have q1 : linesP c F = F.word ++ itemsP c F.letters ++ [10] ++ (c.txt ++ [101, 110, 100, 10]) := by simp [linesP, e5]
    have q2 : okF c F = (ok && linedP c.txt && decide ({ restP c F.letters with txt := [] } = Cmd.of F)) := by simp [okF, leftP, e5, hok]
    have := hk w' _ (by rw [q1]; rw [← htx] at S'; simpa only [List.append_assoc] using S')
    rw [q2] at this
    exact this
  · have e5 : F.fact ≠ 5 := by simpa using h5
    refine at_run (cntG 90 (elseT tGY)) (elseT tGY) w2.heap.size [] [] tGE [(5, pt kf), (7, pt kr), (8, .bool ok)] w2.heap.size [] (lies_nil w2) (by kernel_rfl) fun w3 E3 hL3 hK3 => ?_
    have S3 := S2.below (hK3.below (Nat.le_refl _) (fun k hk => by cases hk))
    refine write_end ok hrw hFi S3 fun w' S' => ?_
    have q1 : linesP c F = F.word ++ itemsP c F.letters ++ [10] := by simp [linesP, e5]
    have q0 : (F.fact != 5) = true := by simpa using e5
    have q2 : okF c F = (ok && decide (restP c F.letters = Cmd.of F)) := by simp [okF, leftP, e5, hok, q0]
    have := hk w' _ (by rw [q1]; rw [← htx] at S'; simpa only [List.append_assoc] using S')
    rw [q2] at this
    exact this
def textC (c : Cmd) : List UInt8 := match formOf c with
  | some F => linesP c F
  | none => []
def okC (c : Cmd) : Bool := match formOf c with
  | some F => okF c F
  | none => false
/-- write: the lines of a command, whether or not it is printable. -/
theorem write_any (c : Cmd) (w : World) (hc : c.Wf) (hw : Con w) (hb : Bld B b (Lib.byteCells bs) w) (hlo : b < w.heap.size) (hBb : B ≤ b) (hg : Tryz.prog.globals.size ≤ B) (hbl : bs.length ≤ 1099511627776) :
    Calls Tryz.prog 43 #[pt b, .agg ⟨c.cells⟩] w fun e w' => e = .returned (.bool (okC c)) ∧ Bld B b (Lib.byteCells (bs ++ textC c)) w' ∧ Below B w w' ∧ Lib.OthersKept 5 (some b) w w' := by
  refine write_head c w hw hb hlo hBb hg (fun hn w' S => ?_) fun F hf kc kf kr w' E' S h1 h2 C => ?_
  · refine ⟨by simp [okC, hn], ?_, S.bel, S.oth⟩
    simpa [textC, hn] using S.bld
  · refine write_loop (goodF_of hf) hc.ok h1 h2 S hg hw hbl fun ki w2 E2 h3 S2 => ?_
    refine write_tail hc (goodF_of hf) (form_in hf) h1 h2 h3 hw hg hbl S2 fun w3 ms S3 => ?_
    refine ⟨by simp [okC, hf], ?_, S3.bel, S3.oth⟩
    simpa [textC, hf] using S3.bld
end Go.Proofs.YtdcbnkimjhefkaaGreatDoor

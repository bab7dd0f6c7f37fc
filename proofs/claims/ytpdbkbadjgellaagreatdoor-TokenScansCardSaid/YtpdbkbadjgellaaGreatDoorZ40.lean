/-
  Plain laws: what stands ahead of a text or behind it. No program in sight.
  Plain laws on the scan of a text, blank by blank and comment by comment. No program in sight.
  Plain laws on the numbers in texts, as the reference reads them. No program in sight.
-/
import Derived.Test.YtpdbkbadjgellaaGreatDoorZ05
namespace Go.Proofs.YtpdbkbadjgellaaGreatDoor
namespace Tk

/-- A blank stops a count. -/
theorem lead_blank (p : UInt8 → Bool) (hp : p 32 = false) (x r : List UInt8) : lead p (x ++ 32 :: r) = lead p x := by
  induction x with
  | nil => simp [lead, hp]
  | cons c x ih => simp only [List.cons_append, lead, ih]

/-- A test at a place of a text, or just behind it. -/
theorem getD_blank (P : UInt8 → Bool) (h32 : P 32 = false) (h0 : P 0 = false) (x r : List UInt8) (j : Nat) (h : j ≤ x.length) : P ((x ++ 32 :: r).getD j 0) = P (x.getD j 0) := by
  simp only [List.getD_eq_getElem?_getD]
  rcases Nat.lt_or_ge j x.length with hj | hj
  · rw [List.getElem?_append_left hj]
  · have : j = x.length := by omega
    subst this
    rw [List.getElem?_append_right (Nat.le_refl _), List.getElem?_eq_none (Nat.le_refl x.length)]
    simp [h32, h0]

theorem digs_blank (x r : List UInt8) : digs (x ++ 32 :: r) = digs x := lead_blank isDig (by decide) x r

theorem hasFrac_blank (x r : List UInt8) : hasFrac (x ++ 32 :: r) = hasFrac x := by
  have hd : digs x ≤ x.length := lead_le _ _
  unfold hasFrac
  rw [digs_blank]
  have e1 := getD_blank (fun c => decide (c.toNat = 46)) (by decide) (by decide) x r (digs x) hd
  rw [e1]
  rcases Nat.lt_or_ge (digs x) x.length with h | h
  · rw [getD_blank isDig (by decide) (by decide) x r (digs x + 1) (by omega)]
  · rw [List.getD_eq_getElem?_getD, List.getElem?_eq_none h]
    rfl

theorem hasFrac_lt (x : List UInt8) (h : hasFrac x = true) : digs x + 1 < x.length := by
  unfold hasFrac at h
  rw [Bool.and_eq_true] at h
  rcases Nat.lt_or_ge (digs x + 1) x.length with h' | h'
  · exact h'
  · rw [List.getD_eq_getElem?_getD (i := digs x + 1), List.getElem?_eq_none h'] at h
    simp [isDig] at h

theorem frac_blank (x r : List UInt8) : frac (x ++ 32 :: r) = frac x := by
  unfold frac
  rw [hasFrac_blank]
  split
  · rename_i h
    have := hasFrac_lt x h
    rw [digs_blank, List.drop_append_of_le_length (by omega), digs_blank]
  · rfl
theorem numEnd_blank (x r : List UInt8) : numEnd (x ++ 32 :: r) = numEnd x := by
  unfold numEnd
  rw [hasFrac_blank, digs_blank, frac_blank]
theorem pct_blank (x r : List UInt8) : pct (x ++ 32 :: r) = pct x := by
  unfold pct
  rw [numEnd_blank]
  exact getD_blank (fun c => decide (c.toNat = 37)) (by decide) (by decide) x r (numEnd x) (frac_len x).1
theorem numLen_blank (x r : List UInt8) : numLen (x ++ 32 :: r) = numLen x := by
  unfold numLen
  rw [pct_blank, numEnd_blank]
theorem badNum_blank (x r : List UInt8) (hx : x ≠ []) : badNum (x ++ 32 :: r) = badNum x := by
  have e0 : (x ++ 32 :: r).getD 0 0 = x.getD 0 0 := by
    cases x with
    | nil => exact absurd rfl hx
    | cons c y => rfl
  have e1 := getD_blank (fun c => isLow c || decide (c.toNat = 95)) (by decide) (by decide) x r (numLen x) (frac_len x).2.1
  unfold badNum most
  rw [digs_blank, frac_blank, pct_blank, numLen_blank, e0, e1]
theorem numN_blank (x r : List UInt8) : numN (x ++ 32 :: r) = numN x := by
  have hd : digs x ≤ x.length := lead_le _ _
  unfold numN
  rw [digs_blank, frac_blank, List.take_append_of_le_length hd]
  cases h : hasFrac x
  · have : frac x = 0 := by unfold frac; rw [h]; rfl
    rw [this]
    simp
  · have h1 := hasFrac_lt x h
    have h2 : frac x ≤ (x.drop (digs x + 1)).length := by unfold frac; rw [if_pos h]; exact lead_le _ _
    rw [List.drop_append_of_le_length (by omega), List.take_append_of_le_length h2]
theorem readNum_blank (x r : List UInt8) (hx : x ≠ []) : readNum (x ++ 32 :: r) = readNum x := by
  unfold readNum numD den0
  rw [badNum_blank x r hx, numN_blank, frac_blank, pct_blank, numLen_blank]

theorem form_blank (ps : List Bool) (x r : List UInt8) : form ps (x ++ 32 :: r) = form ps x := by
  induction ps generalizing x with
  | nil => simp [form]
  | cons p ps ih =>
    cases x with
    | nil =>
      have : (if p = true then isDig 32 else decide ((32 : UInt8).toNat = 45)) = false := by cases p <;> decide
      simp only [List.nil_append, form, this, Bool.false_and]
    | cons c y => simp only [List.cons_append, form, ih]
theorem form_len (ps : List Bool) (l : List UInt8) (h : form ps l = true) : ps.length ≤ l.length := by
  induction ps generalizing l with
  | nil => simp
  | cons p ps ih =>
    cases l with
    | nil => simp [form] at h
    | cons c r => rw [form, Bool.and_eq_true] at h; have := ih r h.2; simp; omega
theorem dayOf_blank (x r : List UInt8) (h : 10 ≤ x.length) : dayOf (x ++ 32 :: r) = dayOf x := by
  have e1 : dateY (x ++ 32 :: r) = dateY x := by unfold dateY; rw [List.take_append_of_le_length (by omega)]
  have e2 : dateM (x ++ 32 :: r) = dateM x := by unfold dateM; rw [List.drop_append_of_le_length (by omega), List.take_append_of_le_length (by simp; omega)]
  have e3 : dateD (x ++ 32 :: r) = dateD x := by unfold dateD; rw [List.drop_append_of_le_length (by omega), List.take_append_of_le_length (by simp; omega)]
  unfold dayOf
  rw [e1, e2, e3]

theorem wordLen_in (l : List UInt8) : wordLen l ≤ l.length := by
  cases l with
  | nil => simp [wordLen]
  | cons c r =>
    have := lead_le isWord r
    simp only [wordLen, List.length_cons]
    split <;> omega
theorem symLen_in (l : List UInt8) : symLen l ≤ l.length := by
  cases l with
  | nil => simp [symLen]
  | cons c r =>
    simp only [symLen, List.length_cons]
    split
    · rename_i h
      cases r with
      | nil => simp [pair] at h
      | cons d r => simp
    · split <;> omega
theorem wordLen_blank (x r : List UInt8) (hx : x ≠ []) : wordLen (x ++ 32 :: r) = wordLen x := by
  cases x with
  | nil => exact absurd rfl hx
  | cons c y => simp only [List.cons_append, wordLen, lead_blank isWord (by decide)]
theorem symLen_blank (x r : List UInt8) (hx : x ≠ []) : symLen (x ++ 32 :: r) = symLen x := by
  cases x with
  | nil => exact absurd rfl hx
  | cons c y =>
    have : pair c ((y ++ 32 :: r).headD 0) = pair c (y.headD 0) := by
      cases y with
      | nil => simp [pair]
      | cons d z => rfl
    simp only [List.cons_append, symLen, this]

/-- A blank behind a text stops its first token as the end does. -/
theorem read_blank (x r : List UInt8) (hx : x ≠ []) : readTok (x ++ 32 :: r) = readTok x := by
  have eh : (x ++ 32 :: r).headD 0 = x.headD 0 := by
    cases x with
    | nil => exact absurd rfl hx
    | cons c y => rfl
  unfold readTok dateForm
  rw [form_blank, eh, readNum_blank x r hx, wordLen_blank x r hx, symLen_blank x r hx, List.take_append_of_le_length (wordLen_in x), List.take_append_of_le_length (symLen_in x)]
  split
  · rename_i h
    rw [dayOf_blank x r (by simpa using form_len _ _ h)]
  · rfl

/-- A comment behind a text. -/
def tailC : List UInt8 := [32, 35, 32, 101, 110, 100]
theorem skip_tail (b : Bool) (x : List UInt8) : skipN b (x ++ tailC) = if skipN b x < x.length then skipN b x else x.length + 6 := by
  induction x generalizing b with
  | nil => cases b <;> simp [skipN] <;> decide
  | cons c x ih =>
    have h1 := skip_le false x
    have h2 := skip_le true x
    cases b
    · simp only [List.cons_append, skipN, ih, List.length_cons]
      by_cases hb : isBlank c = true
      · simp only [hb, if_true]
        split <;> split <;> omega
      · by_cases hc : c.toNat = 35
        · simp only [hb, hc, if_true, Bool.false_eq_true, if_false]
          split <;> split <;> omega
        · simp only [hb, hc, Bool.false_eq_true, if_false]
          rw [if_pos (by omega)]
    · simp only [List.cons_append, skipN, ih, List.length_cons]
      by_cases hc : c.toNat = 10
      · simp only [hc, if_true]
        split <;> split <;> omega
      · simp only [hc, if_false]
        split <;> split <;> omega

theorem scanAt_tail (n p : Nat) (x : List UInt8) (hn : x.length ≤ n) : scanAt p (x ++ tailC) = scanAt p x := by
  induction n generalizing p x with
  | zero =>
    have : x = [] := List.eq_nil_of_length_eq_zero (by omega)
    subst this
    rw [scanAt_eq, skip_tail]
    simp [tailC, scanAt_end]
  | succ n ih =>
    rw [scanAt_eq p (x ++ tailC), scanAt_eq p x, skip_tail]
    have hl : tailC.length = 6 := rfl
    by_cases h : skipN false x < x.length
    · rw [if_pos h, if_neg (by simp; omega), if_neg (by omega), List.drop_append_of_le_length (by omega)]
      have hne : x.drop (skipN false x) ≠ [] := by
        intro e
        have := congrArg List.length e
        simp at this
        omega
      have hr : readTok (x.drop (skipN false x) ++ tailC) = readTok (x.drop (skipN false x)) := read_blank _ _ hne
      rw [hr]
      cases hx : readTok (x.drop (skipN false x)) with
      | error e => rfl
      | ok y =>
        obtain ⟨t, m⟩ := y
        have hm := read_len _ _ _ hx
        simp only
        rw [List.drop_append_of_le_length hm.2, ih _ _ (by simp at hm ⊢; omega)]
    · rw [if_neg h, if_pos (by simp [hl]), if_pos (by omega)]
theorem scan_tail (x : List UInt8) (h : x.length ≤ 10000) : scan (x ++ tailC) = scan x := by
  unfold scan
  have hl : tailC.length = 6 := rfl
  rw [if_neg (by simp; omega), if_neg (by omega), scanAt_tail x.length 0 x (Nat.le_refl _)]

/-- Places moved on. -/
def moved (d : Nat) (t : Tok) : Tok := { t with place := t.place + d }
def shift (d : Nat) : Except (Nat × Int) (List Tok) → Except (Nat × Int) (List Tok)
  | .error (a, e) => .error (a + d, e)
  | .ok ts => .ok (ts.map (moved d))
theorem shift_after (d : Nat) (ts : List Tok) (x : Except (Nat × Int) (List Tok)) : shift d (after ts x) = after (ts.map (moved d)) (shift d x) := by
  cases x with
  | error e => rfl
  | ok us => simp [after, shift]
theorem scanAt_shift (n p d : Nat) (x : List UInt8) (hn : x.length ≤ n) : scanAt (p + d) x = shift d (scanAt p x) := by
  induction n generalizing p x with
  | zero =>
    have : x = [] := List.eq_nil_of_length_eq_zero (by omega)
    subst this
    rfl
  | succ n ih =>
    rw [scanAt_eq (p + d) x, scanAt_eq p x]
    have hk := skip_le false x
    split
    · rfl
    · rename_i h
      cases hx : readTok (x.drop (skipN false x)) with
      | error e => simp only [shift]; rw [show p + d + skipN false x = p + skipN false x + d by omega]
      | ok y =>
        obtain ⟨t, m⟩ := y
        have hm := read_len _ _ _ hx
        simp only
        rw [shift_after, ← ih _ _ (by simp at hm ⊢; omega), show p + d + skipN false x + m = p + skipN false x + m + d by omega]
        congr 1
        simp only [List.map_cons, List.map_nil, moved]
        congr 2
        omega

/-- What may stand ahead of a text. -/
def fronts : List (List UInt8) := [[32], [9, 13, 10], [35, 32, 97, 32, 98, 10], [32, 32, 35, 10]]
theorem skip_front (f x : List UInt8) (h : f ∈ fronts) : skipN false (f ++ x) = f.length + skipN false x := by
  simp only [fronts, List.mem_cons, List.not_mem_nil, or_false] at h
  rcases h with rfl | rfl | rfl | rfl
  all_goals
    simp [skipN, isBlank]
    try omega
theorem scan_front (f x : List UInt8) (h : f ∈ fronts) (hl : x.length ≤ 10000) : scan (f ++ x) = shift f.length (scan x) := by
  have hf : f.length ≤ 6 := by
    simp only [fronts, List.mem_cons, List.not_mem_nil, or_false] at h
    rcases h with rfl | rfl | rfl | rfl <;> decide
  unfold scan
  rw [if_neg (by simp; omega), if_neg (by omega), scanAt_skip 0 (f ++ x), skip_front f x h, ← scanAt_shift x.length 0 f.length x (Nat.le_refl _), scanAt_skip (0 + f.length) x]
  congr 1
  · omega
  · rw [List.drop_append, List.drop_of_length_le (show f.length ≤ f.length + skipN false x by omega), List.nil_append, Nat.add_sub_cancel_left]

/-- Tokens read back: the text of each is read as this token. -/
def backB (t : Tok) (x : List UInt8) : Prop := (∃ c r, x = c :: r ∧ isBlank c = false ∧ c.toNat ≠ 35) ∧ readTok x = .ok ({ t with place := 0 }, x.length)
def joinF (f : Tok → List UInt8) : List Tok → List UInt8
  | [] => []
  | t :: ts => f t ++ ts.flatMap fun u => 32 :: f u
def placed (f : Tok → List UInt8) : Nat → List Tok → List Tok
  | _, [] => []
  | p, t :: ts => { t with place := p } :: placed f (p + (f t).length + 1) ts
theorem scan_join (f : Tok → List UInt8) (ts : List Tok) (p : Nat) (h : ∀ t ∈ ts, backB t (f t)) : scanAt p (joinF f ts) = .ok (placed f p ts) := by
  induction ts generalizing p with
  | nil => rfl
  | cons t ts ih =>
    obtain ⟨⟨c, r, hc, hb, h35⟩, hr⟩ := h t (by simp)
    have hne : f t ≠ [] := by rw [hc]; simp
    have hs : ∀ y, skipN false (f t ++ y) = 0 := by
      intro y
      rw [hc, List.cons_append, skipN, if_neg (by simp [hb]), if_neg h35]
    have hlen : 0 < (f t).length := by rw [hc]; simp
    cases ts with
    | nil =>
      have e : joinF f [t] = f t ++ [] := by simp [joinF]
      rw [e, scanAt_ok p _ (hs []) (by simp; omega) { t with place := 0 } (f t).length (by rw [List.append_nil]; exact hr)]
      rw [List.append_nil, List.drop_length]
      rfl
    | cons u us =>
      have e : joinF f (t :: u :: us) = f t ++ 32 :: joinF f (u :: us) := by simp [joinF]
      have hr2 : readTok (f t ++ 32 :: joinF f (u :: us)) = .ok ({ t with place := 0 }, (f t).length) := by rw [read_blank _ _ hne]; exact hr
      rw [e, scanAt_ok p _ (hs _) (by simp; omega) _ _ hr2, List.drop_left, scanAt_skip]
      obtain ⟨⟨c', r', hc', hb', h35'⟩, _⟩ := h u (by simp)
      have hs2 : skipN false (32 :: joinF f (u :: us)) = 1 := by
        have : skipN false (joinF f (u :: us)) = 0 := by
          simp only [joinF, hc', List.cons_append]
          rw [skipN, if_neg (by simp [hb']), if_neg h35']
        rw [skipN, if_pos (by decide), this]
      rw [hs2, List.drop_one, List.tail_cons, ih (p + (f t).length + 1) (fun v hv => h v (by simp [hv]))]
      rfl
theorem placed_length (f : Tok → List UInt8) (p : Nat) (ts : List Tok) : (placed f p ts).length = ts.length := by
  induction ts generalizing p with
  | nil => rfl
  | cons t ts ih => simp [placed, ih]
/-- A placed token is its token but for the place; places go up. -/
theorem placed_at (f : Tok → List UInt8) (p : Nat) (ts : List Tok) (i : Nat) (h : i < ts.length) :
    ∃ q : Nat, p ≤ q ∧ (placed f p ts)[i]'(by rw [placed_length]; exact h) = { ts[i] with place := (q : Int) } := by
  induction ts generalizing p i with
  | nil => simp at h
  | cons t ts ih =>
    cases i with
    | zero => exact ⟨p, Nat.le_refl _, rfl⟩
    | succ i =>
      obtain ⟨q, hq, he⟩ := ih (p + (f t).length + 1) i (by simpa using h)
      exact ⟨q, by omega, by simpa [placed] using he⟩
theorem placed_up (f : Tok → List UInt8) (p : Nat) (ts : List Tok) (i : Nat) (h : i + 1 < ts.length) :
    ((placed f p ts)[i]'(by rw [placed_length]; omega)).place < ((placed f p ts)[i + 1]'(by rw [placed_length]; exact h)).place := by
  induction ts generalizing p i with
  | nil => simp at h
  | cons t ts ih =>
    cases i with
    | zero =>
      cases ts with
      | nil => simp at h
      | cons u us => simp only [placed, List.getElem_cons_zero, List.getElem_cons_succ]; omega
    | succ i =>
      have := ih (p + (f t).length + 1) i (by simpa using h)
      simpa [placed] using this
end Tk
end Go.Proofs.YtpdbkbadjgellaaGreatDoor

namespace Go.Proofs.YtpdbkbadjgellaaGreatDoor
namespace Tk

def ne10 (c : UInt8) : Bool := decide (c.toNat ≠ 10)
theorem scanAt_blank (p : Nat) (c : UInt8) (r : List UInt8) (h : isBlank c = true) : scanAt p (c :: r) = scanAt (p + 1) r := by
  have hs : skipN false (c :: r) = skipN false r + 1 := by rw [skipN, if_pos h]
  rw [scanAt_skip p (c :: r), hs, List.drop_succ_cons, scanAt_skip (p + 1) r]
  congr 1
  omega
theorem skip_comment (r : List UInt8) : skipN true r = lead ne10 r + skipN false (r.drop (lead ne10 r)) := by
  induction r with
  | nil => rfl
  | cons c r ih =>
    by_cases h : c.toNat = 10
    · have : ne10 c = false := by simp [ne10, h]
      have hb : isBlank c = true := by simp [isBlank, h]
      simp only [lead, this, skipN, h, if_true, Bool.false_eq_true, if_false, List.drop_zero, hb]
      omega
    · have : ne10 c = true := by simp [ne10, h]
      simp only [lead, this, skipN, h, if_true, if_false, List.drop_succ_cons, ih]
      omega
theorem scanAt_comment (p : Nat) (c : UInt8) (r : List UInt8) (h : c.toNat = 35) : scanAt p (c :: r) = scanAt (p + lead ne10 (c :: r)) ((c :: r).drop (lead ne10 (c :: r))) := by
  have hb : isBlank c = false := by simp [isBlank, h]
  have hn : ne10 c = true := by simp [ne10, h]
  have hl : lead ne10 (c :: r) = lead ne10 r + 1 := by simp [lead, hn]
  have hs : skipN false (c :: r) = skipN true r + 1 := by rw [skipN, if_neg (by simp [hb]), if_pos h]
  rw [hl, List.drop_succ_cons, scanAt_skip p (c :: r), hs, List.drop_succ_cons, skip_comment, scanAt_skip (p + (lead ne10 r + 1)) (r.drop (lead ne10 r)), List.drop_drop]
  congr 1
  omega
theorem skip_none (c : UInt8) (r : List UInt8) (h : isBlank c = false) (h2 : c.toNat ≠ 35) : skipN false (c :: r) = 0 := by
  rw [skipN, if_neg (by simp [h]), if_neg h2]
theorem lead_pos (p : UInt8 → Bool) (c : UInt8) (r : List UInt8) (h : p c = true) : 1 ≤ lead p (c :: r) := by simp [lead, h]
end Tk
end Go.Proofs.YtpdbkbadjgellaaGreatDoor

namespace Go.Proofs.YtpdbkbadjgellaaGreatDoor
namespace Tk

theorem newR_none (N D : Nat) (hD : 1 ≤ D) (h : 1000000000000 * D < N) : newR N D = none := by
  unfold newR
  rw [if_pos]
  refine .inl ?_
  have hg : 0 < Nat.gcd N D := Nat.gcd_pos_of_pos_right _ hD
  have e1 : N / Nat.gcd N D * Nat.gcd N D = N := Nat.div_mul_cancel (Nat.gcd_dvd_left _ _)
  have hgD : Nat.gcd N D ≤ D := Nat.gcd_le_right _ hD
  rcases Nat.lt_or_ge 1000000000000 (N / Nat.gcd N D) with h1 | h1
  · exact h1
  · exfalso
    have : N / Nat.gcd N D * Nat.gcd N D ≤ 1000000000000 * D := Nat.mul_le_mul h1 hgD
    omega
theorem frac_len' (y : List UInt8) : ((y.drop (digs y + 1)).take (frac y)).length = frac y := by
  rw [List.length_take, Nat.min_eq_left]
  unfold frac
  split
  · exact lead_le _ _
  · omega
theorem numN_split (y : List UInt8) : numN y = val (y.take (digs y)) * 10 ^ frac y + val ((y.drop (digs y + 1)).take (frac y)) := by
  unfold numN
  rw [val_append, frac_len']
/-- A whole part that is too great. -/
theorem read_over (y : List UInt8) (hb : badNum y = false) (h : 1000000000000 * den0 y < val (y.take (digs y))) : readNum y = .error 4 := by
  unfold readNum
  rw [if_neg (by rw [hb]; simp), newR_none _ _ (numD_pos y)]
  rw [numN_split]
  unfold numD
  have hp : 0 < 10 ^ frac y := Nat.pow_pos (by omega)
  have := Nat.mul_lt_mul_of_pos_right h hp
  rw [Nat.mul_assoc] at this
  omega
/-- A whole part of more than fifteen digits. -/
theorem read_many (y : List UInt8) (hb : badNum y = false) (h : 15 < digs y) : readNum y = .error 4 := by
  refine read_over y hb ?_
  have hd0 : den0 y ≤ 100 := by unfold den0; split <;> omega
  have hl : digs y ≤ y.length := lead_le _ _
  cases y with
  | nil => simp at hl; omega
  | cons c r =>
    have hdig : isDig c = true := lead_all isDig (c :: r) 0 (by unfold digs at h; omega) (by simp)
    have hc : c.toNat ≠ 48 := by
      intro e
      unfold badNum at hb
      rw [Bool.or_eq_false_iff, Bool.or_eq_false_iff, Bool.and_eq_false_iff] at hb
      rcases hb.1.1 with h1 | h1
      · have := of_decide_eq_false h1; omega
      · have := of_decide_eq_false h1; exact this e
    have hd := of_decide_eq_true hdig
    obtain ⟨m, hm⟩ : ∃ m, digs (c :: r) = m + 1 := ⟨digs (c :: r) - 1, by omega⟩
    rw [hm, List.take_succ_cons]
    have e : c :: r.take m = [c] ++ r.take m := rfl
    rw [e, val_append]
    have hlm : (r.take m).length = m := by simp at hl ⊢; omega
    have h1 : 1 ≤ val [c] := by simp [val]; omega
    rw [hlm]
    have h2 : 10 ^ 15 ≤ 10 ^ m := Nat.pow_le_pow_right (by omega) (by omega)
    have h3 : 1 * 10 ^ m ≤ val [c] * 10 ^ m := Nat.mul_le_mul_right _ h1
    omega
theorem val_lt (l : List UInt8) (h : ∀ c ∈ l, isDig c = true) : val l < 10 ^ l.length := by
  have key : ∀ l : List UInt8, (∀ c ∈ l, isDig c = true) → val l < 10 ^ l.length := by
    intro l
    induction l with
    | nil => intro _; simp [val]
    | cons c r ih =>
      intro h
      have h1 := ih (fun d hd => h d (by simp [hd]))
      have h2 := of_decide_eq_true (h c (by simp))
      have e : c :: r = [c] ++ r := rfl
      rw [e, val_append, List.length_append, List.length_cons, List.length_nil, show 0 + 1 + r.length = r.length + 1 by omega, Nat.pow_succ]
      have h3 : val [c] ≤ 9 := by simp [val]; omega
      have h4 : val [c] * 10 ^ r.length ≤ 9 * 10 ^ r.length := Nat.mul_le_mul_right _ h3
      omega
  exact key l h
theorem whole_dig (y : List UInt8) : ∀ c ∈ y.take (digs y), isDig c = true := by
  intro c hc
  obtain ⟨i, hi, rfl⟩ := List.getElem_of_mem hc
  rw [List.getElem_take]
  have hl : digs y ≤ y.length := lead_le _ _
  simp at hi
  exact lead_all isDig y i (by unfold digs at hi; omega) (by omega)
theorem part_dig (y : List UInt8) : ∀ c ∈ (y.drop (digs y + 1)).take (frac y), isDig c = true := by
  intro c hc
  obtain ⟨i, hi, rfl⟩ := List.getElem_of_mem hc
  rw [List.getElem_take]
  rw [frac_len'] at hi
  have hf : hasFrac y = true := by
    rcases Bool.eq_false_or_eq_true (hasFrac y) with h | h
    · exact h
    · unfold frac at hi; rw [h] at hi; simp at hi
  have e : frac y = lead isDig (y.drop (digs y + 1)) := by unfold frac; rw [if_pos hf]; rfl
  exact lead_all isDig _ i (by omega) _
/-- The numerator stays small while the part behind the point is read. -/
theorem part_small (y : List UInt8) (hb : badNum y = false) (h : val (y.take (digs y)) ≤ 1000000000000 * den0 y) (k : Nat) (hk : k ≤ frac y) :
    val (y.take (digs y) ++ ((y.drop (digs y + 1)).take (frac y)).take k) ≤ 1000000000002000000 := by
  have hl : (((y.drop (digs y + 1)).take (frac y)).take k).length = k := by rw [List.length_take, frac_len', Nat.min_eq_left hk]
  have h1 := val_lt (((y.drop (digs y + 1)).take (frac y)).take k) (fun c hc => part_dig y c (List.mem_of_mem_take hc))
  have h2 := pow_le6 y k hk (not_bad y hb)
  rw [val_append, hl]
  rw [hl] at h1
  have h3 : val (y.take (digs y)) * 10 ^ k ≤ 1000000000000 * den0 y * 10 ^ k := Nat.mul_le_mul_right _ h
  rw [Nat.mul_assoc] at h3
  have h4 : 1000000000000 * (den0 y * 10 ^ k) ≤ 1000000000000 * 1000000 := Nat.mul_le_mul_left _ h2
  have h5 : 10 ^ k ≤ den0 y * 10 ^ k := Nat.le_mul_of_pos_left _ (by unfold den0; split <;> omega)
  omega
end Tk
end Go.Proofs.YtpdbkbadjgellaaGreatDoor

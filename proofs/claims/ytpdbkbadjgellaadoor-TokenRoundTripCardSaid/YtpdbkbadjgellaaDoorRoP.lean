/-
  The tokens of the pieces are read back from their texts.
-/
import Derived.Test.YtpdbkbadjgellaaDoorBkQ
import Derived.Test.YtpdbkbadjgellaaDoorPc
import Derived.Test.YtpdbkbadjgellaaDoorTkZ
import Derived.KernelRfl
namespace Go.Proofs.YtpdbkbadjgellaaDoor
open Go.RowKit

def headOk : List UInt8 → Bool
  | [] => false
  | c :: _ => !Tk.isBlank c && decide (c.toNat ≠ 35)
def readsAs (t : Tk.Tok) (x : List UInt8) : Bool :=
  match Tk.readTok x with
  | .error _ => false
  | .ok (u, n) => tokEq u { t with place := 0 } && decide (n = x.length)
def tokOk (t : Tk.Tok) : Bool := validTok t && headOk (textOf t) && readsAs t (textOf t) && decide (t.text.length ≤ 25)
def pieceOk (x : List UInt8) : Bool := (Tk.outT (Tk.scan x)).all tokOk && decide ((Tk.outT (Tk.scan x)).length ≤ 5)
theorem pieces_ok : pieces.all pieceOk = true := by kernel_rfl
theorem piece_toks {x : List UInt8} (h : x ∈ pieces) : (Tk.outT (Tk.scan x)).all tokOk = true ∧ (Tk.outT (Tk.scan x)).length ≤ 5 := by
  have := List.all_eq_true.1 pieces_ok x h
  unfold pieceOk at this
  rw [Bool.and_eq_true] at this
  exact ⟨this.1, of_decide_eq_true this.2⟩

theorem tokOk_parts {t : Tk.Tok} (h : tokOk t = true) : validTok t = true ∧ Tk.backB t (textOf t) ∧ t.text.length ≤ 25 := by
  unfold tokOk at h
  rw [Bool.and_eq_true, Bool.and_eq_true, Bool.and_eq_true] at h
  obtain ⟨⟨⟨h1, h2⟩, h3⟩, h4⟩ := h
  refine ⟨h1, ⟨?_, ?_⟩, of_decide_eq_true h4⟩
  · cases hx : textOf t with
    | nil => rw [hx] at h2; cases h2
    | cons c r =>
      rw [hx] at h2
      simp only [headOk, Bool.and_eq_true, Bool.not_eq_true'] at h2
      exact ⟨c, r, rfl, h2.1, of_decide_eq_true h2.2⟩
  · unfold readsAs at h3
    cases hx : Tk.readTok (textOf t) with
    | error e => rw [hx] at h3; cases h3
    | ok y =>
      obtain ⟨u, n⟩ := y
      rw [hx] at h3
      simp only [Bool.and_eq_true] at h3
      rw [(tokEq_iff _ _).1 h3.1, of_decide_eq_true h3.2]

theorem joinT_eq (ts : List Tk.Tok) : joinT ts = Tk.joinF textOf ts := by cases ts <;> rfl
theorem valid_place {t : Tk.Tok} (h : validTok t = true) (q : Int) (h0 : 0 ≤ q) (h1 : q ≤ 16384) : validTok { t with place := q } = true := by
  unfold validTok at h ⊢
  rw [Bool.and_eq_true] at h ⊢
  exact ⟨decide_eq_true ⟨h0, h1⟩, h.2⟩

/-- What comes back: the same tokens, placed. -/
theorem round_law (ts : List Tk.Tok) (h : ts.all tokOk = true) (hn : ts.length ≤ 40) :
    (textAll ts).length ≤ 16384 ∧ Tk.scan (textAll ts) = .ok (Tk.placed textOf 0 ts) ∧ ∀ t ∈ Tk.placed textOf 0 ts, 0 ≤ t.place ∧ t.place ≤ 16384 := by
  have hall : ∀ t ∈ ts, tokOk t = true := List.all_eq_true.1 h
  have hv : ts.all validTok = true := List.all_eq_true.2 fun t ht => (tokOk_parts (hall t ht)).1
  have e : textAll ts = joinT ts := by unfold textAll; rw [if_pos hv]
  have hl := joinT_len ts hv
  have hs : Tk.scan (textAll ts) = .ok (Tk.placed textOf 0 ts) := by
    unfold Tk.scan
    rw [e, if_neg (by omega), joinT_eq]
    exact Tk.scan_join textOf ts 0 fun t ht => (tokOk_parts (hall t ht)).2.1
  refine ⟨by rw [e]; omega, hs, ?_⟩
  have := (Tk.scan_bd (textAll ts) (by rw [e]; omega)).2.2
  rw [hs] at this
  intro t ht
  have h2 := this t ht
  have : (textAll ts).length ≤ 16384 := by rw [e]; omega
  exact ⟨h2.1, by omega⟩
end Go.Proofs.YtpdbkbadjgellaaDoor

/-
  The walk of package token's Scan.
-/
import Derived.Test.YtpdbkbadjgellaaDoorTkF
import Derived.Test.YtpdbkbadjgellaaDoorTkS
namespace Go.Proofs.YtpdbkbadjgellaaDoor
open Go.RowKit
attribute [local go_sem] ba_get ba_extract take_rest

def tokCells (t : Tk.Tok) : List Value := [.int .i64 t.kind, .string ⟨t.text.toArray⟩, .int .i64 t.num, .int .i64 t.den, .int .i64 t.day, .int .i64 t.place]
def toksCells (ts : List Tk.Tok) : List Value := ts.flatMap tokCells

/-- What Scan leaves: a list of tokens in memory of its own, or an error. -/
def ScanPost (r : Except (Nat × Int) (List Tk.Tok)) (w : World) (e : Ending) (w' : World) : Prop :=
  Below w.heap.size w w' ∧ match r with
  | .error (a, x) => e = .returned (.tuple #[.slice none 0 0, .int .i64 a, .int .i64 x])
  | .ok ts => ∃ v, e = .returned (.tuple #[v, .int .i64 0, .int .i64 0]) ∧ w'.ownsRow w.heap.size 39 6 v ts.length (toksCells ts)

theorem infoTok : (Tryd.prog.info? 39).map (fun i => (i.zero, i.size, i.bytes)) = some (some (.agg #[.int .i64 0, .string ⟨#[]⟩, .int .i64 0, .int .i64 0, .int .i64 0, .int .i64 0]), 6, 56) := by kernel_rfl

theorem tokCells_one (t : Tk.Tok) : ∀ u ∈ tokCells t, u.oneCell' = true := by
  intro u hu
  simp only [tokCells, List.mem_cons, List.not_mem_nil, or_false] at hu
  rcases hu with rfl | rfl | rfl | rfl | rfl | rfl <;> rfl
theorem toksCells_snoc (ts : List Tk.Tok) (t : Tk.Tok) : toksCells (ts ++ [t]) = toksCells ts ++ tokCells t := by simp [toksCells]
/-- The block of an owned row is one of the call's own. -/
theorem own_ge {w : World} {base : Nat} {e : TypeId} {size : Nat} {v : Value} {n : Nat} {xs : List Value} (h : w.ownsRow base e size v n xs) {k : Nat} (hk : v.ownBlock = some k) : base ≤ k := by
  rcases h.2 with ⟨rfl, _⟩ | ⟨g, cap, cur, rfl, hg, _⟩
  · simp [Value.ownBlock] at hk
  · simp [Value.ownBlock] at hk; omega

set_option maxHeartbeats 2000000 in
set_option maxRecDepth 100000 in
theorem scan_any (l : List UInt8) (w : World) (hs : l.length ≤ maxLen) (hl : Lens w) :
    Calls Tryd.prog 8 #[.string ⟨l.toArray⟩] w (ScanPost (Tk.scan l) w) := by
  unfold maxLen at hs
  obtain ⟨i0, hi, hz0, hz1, hz2⟩ := info_parts infoTok
  have HL := Lib.hid hl
  clear hl
  by_cases hbig : 16384 < l.length
  · have HR : Hid (Tk.scan l = .error (0, 3)) := by show _ = _; unfold Tk.scan; rw [if_pos hbig]
    go_enter Tryd.func8, Tryd.ntmps8
    go_wp2_with fail
    go_ret3
    exact ⟨Below.refl _ _, by rw [HR.out]; rfl⟩
  · have HR : Hid (Tk.scan l = Tk.scanAt 0 l) := by show _ = _; unfold Tk.scan; rw [if_neg hbig]
    have hle : l.length ≤ 16384 := by omega
    clear hbig hs
    have hm : Hid (l.length ≤ maxLen) := by show _ ≤ _; unfold maxLen; omega
    generalize hT : Tk.scan l = T at *
    clear hT
    have hk0 := Tk.skip_le false l
    go_enter Tryd.func8, Tryd.ntmps8
    go_wp2_with fail
    refine (skip_any l 0 _ hm.out (Nat.zero_le _)).mono ?_
    rintro e w' ⟨rfl, rfl⟩
    simp only [List.drop_zero, Nat.zero_add]
    go_wp2_with fail
    go_loopw [5, 6] (fun s5 s6 wr => ∃ (p : Nat) (ts : List Tk.Tok), p ≤ l.length ∧ ts.length ≤ p ∧ s6 = .int .i64 p ∧ Hid (Tk.skipN false (l.drop p) = 0) ∧ Hid (Tk.after ts (Tk.scanAt p (l.drop p)) = T) ∧
        wr.ownsRow w.heap.size 39 6 s5 ts.length (toksCells ts) ∧ Below w.heap.size w wr) (fun _ i _ => l.length - (intOf i).toNat)
    case atStart =>
      refine ⟨Tk.skipN false l, [], by omega, by simp, rfl, Tk.skip_skip false l, ?_, ⟨by simp [toksCells], .inl ⟨rfl, rfl⟩⟩, Below.refl _ _⟩
      show _ = _
      rw [Tk.after_nil, HR.out, Tk.scanAt_skip 0 l, Nat.zero_add]
    case round =>
      obtain ⟨p, ts, hp, htp, rfl, HS, HA, hown, hbl⟩ := hrel
      have hsz := hbl.size
      by_cases hlt : p < l.length
      · have HL1 : Hid (Lens wr) := HL.out.below hbl
        go_wp2_with fail
        refine (read_any (l.drop p) wr (by simp; omega) (by simp; omega) HL1.out).mono ?_
        rintro e w1 ⟨rfl, hb1⟩
        have hsz1 := hb1.size
        have hown1 : w1.ownsRow w.heap.size 39 6 u5 ts.length (toksCells ts) := owns_below hown hb1
        cases hr : Tk.readTok (l.drop p) with
        | error x =>
          have HX : Hid (T = .error (p, x)) := by
            show _ = _
            rw [← HA.out, Tk.scanAt_err p _ HS.out (by simp; omega) x hr]; rfl
          have hx0 : x ≠ 0 := Tk.read_err _ _ hr
          have gx : (x != 0) = true := by simpa using hx0
          clear hr hx0 HA HS
          simp only [tokRes, tokErr, tokV]
          go_wp2_with fail
          go_ret3
          refine ⟨?_, by rw [HX.out]; rfl⟩
          exact ((hbl.trans (hb1.mono hsz)).alloc (by omega) _)
        | ok y =>
          obtain ⟨t, n⟩ := y
          have hn := Tk.read_len _ _ _ hr
          rw [List.length_drop] at hn
          obtain ⟨hn1, hn2⟩ := hn
          have hk := Tk.skip_le false (l.drop (p + n))
          rw [List.length_drop] at hk
          have HX : Hid (Tk.after (ts ++ [{ t with place := p }]) (Tk.scanAt (p + n + Tk.skipN false (l.drop (p + n))) (l.drop (p + n + Tk.skipN false (l.drop (p + n))))) = T) := by
            show _ = _
            rw [← HA.out, Tk.scanAt_ok p _ HS.out (by simp; omega) t n hr, Tk.after_after, List.drop_drop, Tk.scanAt_skip (p + n) (l.drop (p + n)), List.drop_drop]
          have HX2 : Hid (Tk.skipN false (l.drop (p + n + Tk.skipN false (l.drop (p + n)))) = 0) := by
            show _ = _
            rw [← List.drop_drop]; exact Tk.skip_skip false _
          clear hr HA HS
          obtain ⟨t1, t2, t3, t4, t5, t6⟩ := t
          simp only [tokRes, tokErr, tokV]
          go_wp2_with (at_builtin; refine wpList_append_own _ rfl _ _ 24 rfl w.heap.size 39 i0 (.agg #[.int .i64 0, .string ⟨#[]⟩, .int .i64 0, .int .i64 0, .int .i64 0, .int .i64 0]) 6 56 Tryd.underlying24 hi hz0 hz1 hz2 rfl (by decide) _ _ _ rfl ((hown1.alloc _).alloc _) ⟨w1.heap.size + 1, 0, none⟩ 1 1 (tokCells ⟨t1, t2, t3, t4, t5, p⟩) rfl rfl ?c1 ?c2 ?c3 ?c4 ?c5 ?_)
          case c1 => exact fun j u hj => hj
          case c2 => exact tokCells_one _
          case c3 => unfold maxLen; omega
          case c4 => omega
          case c5 => omega
          intro v' w2 hown2 hg2 _
          have hB2 : Below w.heap.size w w2 := by
            refine Below.grown (((hbl.trans (hb1.mono hsz)).alloc (by omega) _).alloc (by simp; omega) _) hg2 (by simp; omega) ?_
            exact fun k hk => own_ge hown1 hk
          clear hg2 hown1 hown hbl hb1
          go_wp2_with fail
          refine (skip_any l (p + n) _ hm.out (by omega)).mono ?_
          rintro e w3 ⟨rfl, rfl⟩
          go_wp2_with fail
          go_roundw
          case rel => exact ⟨p + n + Tk.skipN false (l.drop (p + n)), ts ++ [⟨t1, t2, t3, t4, t5, p⟩], by omega, by simp; omega, by go_num, HX2, HX, by rw [toksCells_snoc, List.length_append]; exact hown2, hB2⟩
          case measure => simp [intOf]; omega
      · have HX : Hid (T = .ok ts) := by
          show _ = _
          rw [← HA.out, List.drop_of_length_le (by omega)]
          simp [Tk.scanAt_end, Tk.after]
        go_wp2_with fail
        go_ret3
        exact ⟨hbl, by rw [HX.out]; exact ⟨_, rfl, hown⟩⟩
end Go.Proofs.YtpdbkbadjgellaaDoor

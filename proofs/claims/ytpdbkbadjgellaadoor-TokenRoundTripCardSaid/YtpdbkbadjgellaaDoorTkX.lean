/-
  The walk of package token's Text.
-/
import Derived.Test.YtpdbkbadjgellaaDoorTkV
import Derived.Test.YtpdbkbadjgellaaDoorTkR
import Derived.Test.YtpdbkbadjgellaaDoorBl
import Derived.Test.YtpdbkbadjgellaaDoorShelf
import Derived.Lib.OthersKept
import Derived.Deep.DeepCutAuto
namespace Go.Proofs.YtpdbkbadjgellaaDoor
open Go.RowKit
attribute [local go_sem] ba_get ba_extract take_rest ba_append

/-- The text of a token. -/
def textOf (t : Tk.Tok) : List UInt8 := if t.kind = 2 then numText t.num t.den else if t.kind = 3 then Tk.dateText t.day else t.text
/-- The texts of tokens, separated by single spaces. -/
def joinT : List Tk.Tok → List UInt8
  | [] => []
  | t :: ts => textOf t ++ ts.flatMap fun u => 32 :: textOf u
def textAll (ts : List Tk.Tok) : List UInt8 := if ts.all validTok = true then joinT ts else []

theorem joinT_snoc (ts : List Tk.Tok) (t : Tk.Tok) (h : 0 < ts.length) : joinT (ts ++ [t]) = (joinT ts ++ [32]) ++ textOf t := by
  cases ts with
  | nil => simp at h
  | cons u us => simp [joinT]
theorem joinT_one (t : Tk.Tok) : joinT [t] = textOf t := by simp [joinT]

theorem builder_below {T e : TypeId} {B b : Nat} {bs : List Value} {w w' : World} (h : Lib.IsBuilderF T e B b bs w) (hb : Below w.heap.size w w') : Lib.IsBuilderF T e B b bs w' := by
  have key : ∀ p, Lib.BuilderAtF T e B b p bs w → Lib.BuilderAtF T e B b p bs w' := by
    intro p hp
    have hlt := hp.lt
    obtain ⟨h1, v, h2, h3, h4⟩ := hp
    refine ⟨h1, v, (hb.block b hlt).trans h2, ?_, h4⟩
    refine h3.kept (row := none) ⟨hb.os, hb.tape, hb.output, hb.size, fun k hk _ => hb.block k hk⟩ ?_
    cases hv : v.ownBlock with
    | none => exact .inl rfl
    | some g => exact .inr (by simp)
  rcases h with h | h
  · exact .inl (key _ h)
  · exact .inr (key _ h)

theorem strCells_list (l : List UInt8) : Lib.strCells ⟨l.toArray⟩ = Lib.byteCells l := rfl
theorem byteCells_append (a b : List UInt8) : Lib.byteCells a ++ Lib.byteCells b = Lib.byteCells (a ++ b) := by simp [Lib.byteCells]
theorem byteCells_length (a : List UInt8) : (Lib.byteCells a).length = a.length := by simp [Lib.byteCells]

theorem key_len (x : List UInt8) (h : Tk.isKey x = true) : x.length ≤ 9 := by
  have hm : x ∈ Tk.keywords := List.contains_iff_mem.1 h
  simp only [Tk.keywords, List.mem_cons, List.not_mem_nil, or_false] at hm
  rcases hm with rfl | rfl | rfl | rfl | rfl | rfl | rfl | rfl | rfl | rfl | rfl | rfl | rfl | rfl | rfl | rfl | rfl | rfl | rfl | rfl | rfl | rfl | rfl | rfl | rfl | rfl | rfl | rfl | rfl | rfl | rfl | rfl | rfl | rfl <;> decide
theorem numText_len (n d : Int) : (numText n d).length ≤ 50 := by
  unfold numText
  split
  · rename_i h
    obtain ⟨d1, d2, n1, n2, dm, _⟩ := isDec_parts h
    obtain ⟨m1, m2⟩ := mills_bd h
    have hq1 : 0 ≤ n / d := Int.ediv_nonneg n1 (by omega)
    have hq2 : n / d ≤ n := Int.ediv_le_self _ n1
    have l1 := Lib.itoa_length_le (n / d) (by omega) (by omega)
    have l2 := Lib.itoa_length_le (1000000 + mills n d) (by omega) (by omega)
    have l3 := trim_len ((Lib.itoa (1000000 + mills n d)).drop 1)
    rw [List.length_drop] at l3
    split
    · omega
    · simp only [List.length_append, List.length_cons, List.length_nil]; omega
  · simp
theorem dateText_len (d : Int) : (Tk.dateText d).length ≤ 70 := by
  unfold Tk.dateText
  split
  · rename_i h
    have hs := of_decide_eq_true (Tk.date_spec d h.1 h.2).1
    have := (mlen_bd (Tk.yOf d) (Tk.mOf d)).2
    have l1 := Lib.itoa_length_le (Tk.yOf d) (by omega) (by omega)
    have l2 := two_len (Tk.mOf d) (by omega) (by omega)
    have l3 := two_len (Tk.dOf d) (by omega) (by omega)
    simp only [List.length_append, List.length_cons, List.length_nil]
    omega
  · simp
theorem textOf_len (t : Tk.Tok) (h : validTok t = true) : (textOf t).length ≤ 70 := by
  unfold textOf
  split
  · exact Nat.le_trans (numText_len _ _) (by omega)
  · split
    · exact dateText_len _
    · rename_i k2 k3
      unfold validTok at h
      rw [Bool.and_eq_true, if_neg k2, if_neg k3] at h
      have h := h.2
      split at h
      · rw [Bool.and_eq_true, Bool.or_eq_true] at h
        rcases h.1 with h | h
        · unfold Tk.isName at h
          rw [Bool.and_eq_true, Bool.and_eq_true, Bool.and_eq_true] at h
          have := of_decide_eq_true h.1.1.2
          omega
        · have := key_len _ h
          omega
      · split at h
        · rw [Bool.and_eq_true, Bool.and_eq_true] at h
          have h1 := of_decide_eq_true h.1.2
          have := (symLen_le t.text).2
          omega
        · cases h
theorem joinT_len (ts : List Tk.Tok) (h : ts.all validTok = true) : (joinT ts).length ≤ 71 * ts.length := by
  cases ts with
  | nil => simp [joinT]
  | cons t us =>
    rw [List.all_cons, Bool.and_eq_true] at h
    have h1 := textOf_len t h.1
    have key : ∀ us : List Tk.Tok, us.all validTok = true → (us.flatMap fun u => 32 :: textOf u).length ≤ 71 * us.length := by
      intro us
      induction us with
      | nil => simp
      | cons u us ih =>
        intro h
        rw [List.all_cons, Bool.and_eq_true] at h
        have := ih h.2
        have := textOf_len u h.1
        simp only [List.flatMap_cons, List.length_append, List.length_cons] at *
        omega
    have := key us h.2
    simp only [joinT, List.length_append, List.length_cons]
    omega

/-- What stands ahead of the k-th text. -/
def sepT (ts : List Tk.Tok) (k : Nat) : List UInt8 := if k = 0 then [] else joinT (ts.take k) ++ [32]
theorem sepT_next (ts : List Tk.Tok) (k : Nat) (h : k < ts.length) : sepT ts k ++ textOf ts[k] = joinT (ts.take (k + 1)) := by
  unfold sepT
  rw [List.take_succ_eq_append_getElem h]
  split
  · rename_i h0
    subst h0
    simp [joinT]
  · rw [joinT_snoc _ _ (by simp; omega)]

set_option maxHeartbeats 2000000 in
set_option maxRecDepth 100000 in
theorem text_any (v : Value) (ts : List Tk.Tok) (w : World) (hr : TokRow w v ts) (hn : ts.length ≤ 100000) (hx : ∀ t ∈ ts, t.text.length ≤ maxLen) (hl : Lens w) (hp : Pow w) :
    Calls Tryd.prog 14 #[v] w fun e w' => e = .returned (.string ⟨(textAll ts).toArray⟩) ∧ Below w.heap.size w w' := by
  have HR := Lib.hid hr
  obtain ⟨A, c, rfl, hA⟩ := hr
  have HX := Lib.hid hx
  have HL := Lib.hid hl
  have HP := Lib.hid hp
  clear hx hl hp hA
  go_enter Tryd.func14, Tryd.ntmps14
  go_wp2_with fail
  go_loopw [8] (fun i wr => ∃ k : Nat, k ≤ ts.length ∧ i = .int .i64 k ∧ Hid ((ts.take k).all validTok = true) ∧ Lib.IsBuilderF 64 5 w.heap.size w.heap.size (Lib.byteCells (joinT (ts.take k))) wr ∧ Below w.heap.size w wr ∧ w.heap.size < wr.heap.size) (fun i _ => ts.length - (intOf i).toNat)
  case atStart => exact ⟨0, Nat.zero_le _, rfl, rfl, Lib.IsBuilderF.of (Lib.fresh_isBuilder _ _ _), (Below.refl _ _).alloc (Nat.le_refl _) _, by simp⟩
  case round =>
    obtain ⟨k, hk, rfl, HV, hbu, hbl, hsz⟩ := hrel
    have hjl := joinT_len _ HV.out
    rw [List.length_take] at hjl
    by_cases hlt : k < ts.length
    · obtain ⟨A', c', e', hA⟩ := HR.out.below hbl
      obtain ⟨g, off, hAe, hc⟩ := hA (by omega)
      simp only [Value.slice.injEq] at e'
      obtain ⟨rfl, _, rfl⟩ := e'
      subst hAe
      have hc := hc k hlt
      obtain ⟨t1, t2, t3, t4, t5, t6, ht⟩ : ∃ t1 t2 t3 t4 t5 t6, ts[k] = ⟨t1, t2, t3, t4, t5, t6⟩ := ⟨_, _, _, _, _, _, rfl⟩
      have hx2 : t2.length ≤ maxLen := by have := HX.out ts[k] (List.getElem_mem hlt); rw [ht] at this; exact this
      have HX2 := Lib.hid hx2
      clear hx2
      rw [ht] at hc
      have c0 := hc 0 _ rfl
      have c1 := hc 1 _ rfl
      have c2 := hc 2 _ rfl
      have c3 := hc 3 _ rfl
      have c4 := hc 4 _ rfl
      have c5 := hc 5 _ rfl
      simp only [Nat.add_zero] at c0
      clear hc
      have HT := Lib.hid ht
      clear ht
      go_wp2_with fail
      refine (valid_any ⟨t1, t2, t3, t4, t5, t6⟩ _ HX2.out).mono ?_
      rintro e w1 ⟨rfl, hb1⟩
      clear c0 c1 c2 c3 c4 c5
      have hB1 : Below w.heap.size w w1 := (hbl.alloc (by omega) _).trans (hb1.mono (by simp; omega))
      have hbu1 := builder_below (hbu.alloc _) hb1
      have hblk := (hb1.block wr.heap.size (by simp)).trans (heap_alloc_new wr _)
      have hz1 := hb1.size
      simp only [World.size_alloc] at hz1
      clear hb1 hbu hbl
      cases hv : validTok ⟨t1, t2, t3, t4, t5, t6⟩
      · have HF : Hid (textAll ts = []) := by
          show _ = _
          unfold textAll
          rw [if_neg]
          intro hall
          have := List.all_eq_true.1 hall ts[k] (List.getElem_mem hlt)
          rw [HT.out, hv] at this
          cases this
        clear hv
        go_wp2_with fail
        go_ret
        exact ⟨ret_str HF.out.symm, hB1⟩
      · have hlen := textOf_len _ hv
        have HV2 : Hid ((ts.take (k + 1)).all validTok = true) := by
          show _ = _
          rw [List.take_succ_eq_append_getElem hlt, List.all_append, HV.out, HT.out]
          simp [hv]
        have HN := Lib.hid (sepT_next ts k hlt)
        clear hv
        go_upto_if 17 with fail
        go_cut [] (fun wx => Lib.IsBuilderF 64 5 w.heap.size w.heap.size (Lib.byteCells (sepT ts k)) wx ∧ wx.heap[wr.heap.size]? = some (.cells #[.int .i64 t1, .string ⟨t2.toArray⟩, .int .i64 t3, .int .i64 t4, .int .i64 t5, .int .i64 t6] 39 (0, 0)) ∧ Below w.heap.size w wx ∧ wr.heap.size < wx.heap.size)
        case first =>
          by_cases hk0 : k = 0
          · have HS : Hid (sepT ts k = joinT (ts.take k)) := by show _ = _; unfold sepT; rw [if_pos hk0, hk0]; rfl
            have gk : ¬ (0 : Int) < k := by omega
            clear hk0
            go_wp2_with fail
            go_meet
            case rel => exact ⟨by rw [HS.out]; exact hbu1, hblk, hB1, by omega⟩
          · have HS : Hid (sepT ts k = joinT (ts.take k) ++ [32]) := by show _ = _; unfold sepT; rw [if_neg hk0]
            have gk : (0 : Int) < k := by omega
            clear hk0
            go_wp2_with fail
            refine (Tryd.bldByte w.heap.size w.heap.size _ 32 _ hbu1 (by rw [byteCells_length]; omega) (by omega)).mono ?_
            rintro e w2 ⟨rfl, hbu2, hb2, hok2⟩
            have hblk2 := hok2 _ _ hblk (by simp; omega) (by simp)
            have hz2 := hb2.size
            go_wp2_with fail
            go_meet
            case rel => exact ⟨by rw [HS.out, ← byteCells_append]; exact .inr hbu2, hblk2, hB1.trans hb2, by omega⟩
        case rest =>
          obtain ⟨hbu2, hblk2, hB2, hz2⟩ := hcut
          clear hbu1 hblk hB1 hz1
          have c0 := Lib.cell_of_heap hblk2 0
          have c1 := Lib.cell_of_heap hblk2 1
          have c2 := Lib.cell_of_heap hblk2 2
          have c3 := Lib.cell_of_heap hblk2 3
          have c4 := Lib.cell_of_heap hblk2 4
          have c5 := Lib.cell_of_heap hblk2 5
          simp only [List.getElem?_toArray, List.getElem?_cons_zero, List.getElem?_cons_succ] at c0 c1 c2 c3 c4 c5
          have hsl : (sepT ts k).length ≤ 7200000 := by unfold sepT; split <;> simp <;> omega
          have HP2 : Hid (Pow wc) := HP.out.below hB2
          have HL2 : Hid (Lens wc) := HL.out.below hB2
          by_cases k2 : t1 = 2
          · have HO : Hid (textOf ts[k] = numText t3 t4) := by show _ = _; rw [HT.out]; simp [textOf, k2]
            subst k2
            go_wp2_with fail
            refine (number_text t3 t4 _ HP2.out).mono ?_
            rintro e w3 ⟨rfl, hb3⟩
            have hbu3 := builder_below hbu2 hb3
            have hz3 := hb3.size
            have hB3 : Below w.heap.size w w3 := hB2.trans (hb3.mono (by omega))
            have hlim : (sepT ts k).length + (numText t3 t4).length ≤ 140737488355328 := by have := numText_len t3 t4; omega
            clear c0 c1 c2 c3 c4 c5 hbu2 hb3
            go_wp2_with fail
            refine (Tryd.bldString w.heap.size w.heap.size _ _ _ hbu3 (by rw [byteCells_length]; exact hlim) (by omega)).mono ?_
            rintro e w4 ⟨rfl, hbu4, hb4, _⟩
            rw [strCells_list, byteCells_append, ← HO.out, HN.out] at hbu4
            have hz4 := hb4.size
            go_wp2_with fail
            go_roundw
            case rel => exact ⟨k + 1, by omega, by go_num, HV2, .inr hbu4, hB3.trans hb4, by omega⟩
            case measure => simp [intOf]; omega
          · have g2 : (t1 == 2) = false := by simpa using k2
            by_cases k3 : t1 = 3
            · have HO : Hid (textOf ts[k] = Tk.dateText t5) := by show _ = _; rw [HT.out]; simp [textOf, k3]
              subst k3
              clear g2 k2
              go_wp2_with fail
              refine (calFormat_any t5 _ HL2.out HP2.out).mono ?_
              rintro e w3 ⟨rfl, hb3⟩
              have hbu3 := builder_below hbu2 hb3
              have hz3 := hb3.size
              have hB3 : Below w.heap.size w w3 := hB2.trans (hb3.mono (by omega))
              have hlim : (sepT ts k).length + (Tk.dateText t5).length ≤ 140737488355328 := by have := dateText_len t5; omega
              clear c0 c1 c2 c3 c4 c5 hbu2 hb3
              go_wp2_with fail
              refine (Tryd.bldString w.heap.size w.heap.size _ _ _ hbu3 (by rw [byteCells_length]; exact hlim) (by omega)).mono ?_
              rintro e w4 ⟨rfl, hbu4, hb4, _⟩
              rw [strCells_list, byteCells_append, ← HO.out, HN.out] at hbu4
              have hz4 := hb4.size
              go_wp2_with fail
              go_roundw
              case rel => exact ⟨k + 1, by omega, by go_num, HV2, .inr hbu4, hB3.trans hb4, by omega⟩
              case measure => simp [intOf]; omega
            · have HO : Hid (textOf ts[k] = t2) := by show _ = _; rw [HT.out]; simp [textOf, k2, k3]
              have g3 : (t1 == 3) = false := by simpa using k3
              have hlim : (sepT ts k).length + t2.length ≤ 140737488355328 := by
                have : textOf ⟨t1, t2, t3, t4, t5, t6⟩ = t2 := by simp [textOf, k2, k3]
                rw [this] at hlen
                omega
              clear k2 k3
              have hbu3 := hbu2
              have hB3 := hB2
              go_wp2_with fail
              refine (Tryd.bldString w.heap.size w.heap.size _ _ _ hbu3 (by rw [byteCells_length]; exact hlim) (by omega)).mono ?_
              rintro e w4 ⟨rfl, hbu4, hb4, _⟩
              rw [strCells_list, byteCells_append, ← HO.out, HN.out] at hbu4
              have hz4 := hb4.size
              go_wp2_with fail
              go_roundw
              case rel => exact ⟨k + 1, by omega, by go_num, HV2, .inr hbu4, hB3.trans hb4, by omega⟩
              case measure => simp [intOf]; omega
    · have HF : Hid (textAll ts = joinT (ts.take k)) := by
        show _ = _
        have hv := HV.out
        have e : ts.take k = ts := List.take_of_length_le (by omega)
        rw [e] at hv ⊢
        unfold textAll
        rw [if_pos hv]
      go_wp2_with fail
      refine (Tryd.Builder_String_any_f w.heap.size w.heap.size _ _ hbu (by omega)).mono ?_
      rintro e w3 ⟨rfl, _, hb3⟩
      go_wp2_with fail
      go_ret
      exact ⟨ret_str HF.out.symm, hbl.trans hb3⟩
end Go.Proofs.YtpdbkbadjgellaaDoor

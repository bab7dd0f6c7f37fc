/-
  The reference's text and operand: short texts (printed by gen_text2.py).
  The reference's operand; text at every height; typeText (printed by gen_oper.py).
-/
import Derived.Test.YtpdbkbadjgellaaGreatDoorZ29
namespace Go.Proofs.YtpdbkbadjgellaaGreatDoor
open Go.RowKit
section
set_option maxRecDepth 100000
def TextSaid (n T : Nat) : Prop := ∀ (e : Ex) (cs : List Value) (w : World), e.height ≤ n → okE e → exS (fun _ => True) w e cs → Calls Tryz.prog 57 [.agg cs.toArray].toArray w (Short T w)
def OperSaid (n T : Nat) : Prop := ∀ (e : Ex) (cs : List Value) (w : World), e.height ≤ n → okE e → exS (fun _ => True) w e cs → Calls Tryz.prog 89 [.agg cs.toArray].toArray w (Short T w)
theorem kid_ok {n T : Nat} (It : TextSaid n T) (Io : OperSaid n T) {w : World} {e : Ex} {r : List Value} {g o : Nat} (hr : exS (fun _ => True) w e r) (hh : e.height ≤ n) (ok : okE e) (hcell : ∀ (j : Nat) u, r[j]? = some u → w.cell? ⟨g, o + j, none⟩ = some u) (hg : g < w.heap.size) :
    ∃ v0 v1 v2 v3 v4 v5 v6 v7 v8 v9, r = [v0, v1, v2, v3, v4, v5, v6, v7, v8, v9] ∧ (∀ wr, Below w.heap.size w wr → (⟨g, o, [v0, v1, v2, v3, v4, v5, v6, v7, v8, v9], 91, false⟩ : Ent).good wr) ∧
      (∀ u, Below w.heap.size w u → Calls Tryz.prog 57 [.agg #[v0, v1, v2, v3, v4, v5, v6, v7, v8, v9]].toArray u (Short T u)) ∧ (∀ u, Below w.heap.size w u → Calls Tryz.prog 89 [.agg #[v0, v1, v2, v3, v4, v5, v6, v7, v8, v9]].toArray u (Short T u)) := by
  have hr' := hr
  obtain ⟨op, num, den, mu, hu, du, nm, cnt, md, kids⟩ := e
  unfold exS at hr'
  obtain ⟨A, c, ks, rfl, _, _⟩ := hr'
  have keep : ∀ u, Below w.heap.size w u → exS (fun _ => True) u (.mk op num den mu hu du nm cnt md kids) _ := fun u hu' => exS.keep hu'.size (fun g' _ hg' => ⟨trivial, hu'.block g' hg'⟩) _ _ hr
  refine ⟨_, _, _, _, _, _, _, _, _, _, rfl, fun wr hB => ⟨Nat.lt_of_lt_of_le hg hB.size, ?_⟩, fun u hu' => It _ _ u hh ok (keep u hu'), fun u hu' => Io _ _ u hh ok (keep u hu')⟩
  rw [if_neg (by simp)]
  intro j v hv
  rw [World.cell?_of_block (w := w) (hB.block g hg)]
  exact hcell j v hv
theorem len_one {α : Type} {l : List α} (h : l.length = 1) : ∃ a, l = [a] := List.length_eq_one_iff.1 h
theorem len_two {α : Type} {l : List α} (h : l.length = 2) : ∃ a b, l = [a, b] := by
  match l, h with
  | [a, b], _ => exact ⟨a, b, rfl⟩
theorem len_three {α : Type} {l : List α} (h : l.length = 3) : ∃ a b c, l = [a, b, c] := by
  match l, h with
  | [a, b, c], _ => exact ⟨a, b, c, rfl⟩
theorem mode_word {m : Nat} (h : m < 7) : ∃ s : ByteArray, modeCells[m]? = some (.string s) ∧ s.size ≤ 9 := by
  rcases (show m = 0 ∨ m = 1 ∨ m = 2 ∨ m = 3 ∨ m = 4 ∨ m = 5 ∨ m = 6 by omega) with rfl | rfl | rfl | rfl | rfl | rfl | rfl <;> exact ⟨_, rfl, by decide⟩
theorem okEs_get : ∀ {es : List Ex} {i : Nat} {e : Ex}, okEs es → es[i]? = some e → okE e
  | [], _, _, _, h => by simp at h
  | x :: es, 0, e, h, hi => by unfold okEs at h; simp at hi; exact hi ▸ h.1
  | x :: es, i + 1, e, h, hi => by unfold okEs at h; exact okEs_get h.2 (by simpa using hi)
set_option maxHeartbeats 2000000 in
theorem text_step {n T : Nat} (hT : T ≤ 100000000000000000) (It : TextSaid n T) (Io : OperSaid n T) : TextSaid (n + 1) (4 * T + 400) := by
  rintro ⟨op, num, den, mu, hu, du, nm, cnt, md, kids⟩ cs w hh ok hx
  unfold exS at hx
  obtain ⟨A, c, ks, rfl, hks, hrows⟩ := hx
  have hhk : Ex.heights kids ≤ n := by unfold Ex.height at hh; omega
  unfold okE at ok
  obtain ⟨okl, oks⟩ := ok
  unfold okLocal at okl
  obtain ⟨o1, o2, n1, n2, d1, d2, m1, m2, h1, h2, u1, u2, hnm, c1, c2, e1, e2, har⟩ := okl
  have hnm' : (⟨nm.toArray⟩ : ByteArray).size ≤ 5 := hnm
  have hbd : ∀ k, k ≤ 4 * T + 5000 → Nat.ble k 4000000000000000000 = true := fun k hk => Nat.ble_eq_true_of_le (by omega)
  have hu0 : -1 ≤ mu ∧ mu ≤ 1 ∧ -1 ≤ hu ∧ hu ≤ 1 ∧ -1 ≤ du ∧ du ≤ 1 := ⟨m1, m2, h1, h2, u1, u2⟩
  clear hh n1 n2 d1 d2 c1 c2
  suffices goal : Calls Tryz.prog 57 [.agg (exC op num den mu hu du nm cnt md A kids.length c).toArray].toArray w (Short (4 * T + 400) w) from goal
  refine calls_at (args := [.agg (exC op num den mu hu du nm cnt md A kids.length c).toArray]) (fn := Tryz.f57) (c := codeTx) (n := 173) (by kernel_rfl) (by kernel_rfl) (by kernel_rfl) (by kernel_rfl) ?_
  refine at_run (cntG 90 [.code codeTx]) [.code codeTx] w.heap.size [] [(0, 0)] tX0 [(1, pt w.heap.size 0), (4, .int .i64 op), (5, .bool (op == 1))] (w.heap.size + 1) (memW w (exC op num den mu hu du nm cnt md A kids.length c)) (lies_nil w) (by kernel_rfl) fun w1 E1 L K => ?_
  have B := below_kept K
  replace L := lies_sz (lies_any L)
  clear K
  refine at_cond (op == 1) (by kernel_rfl) (fun hop => ?_) (fun hop => ?_)
  · obtain rfl : op = 1 := by simpa using hop
    refine at_run (cntA 3 90 (thenT tX0)) (thenT tX0) w1.heap.size _ [] tR3 [(1, pt w.heap.size 0)] w1.heap.size (memW w (exC 1 num den mu hu du nm cnt md A kids.length c)) L (by kernel_rfl) fun w8 E8 L2 K => ?_
    replace B := below_own B K
    replace L := lies_sz (lies_any L2)
    clear L2 K
    refine tx3 (T := T) (w := w) (num := num) (den := den) (mu := mu) (hu := hu) (du := du) (nm := nm) (cnt := cnt) (c := c) (A := A) (kn := kids.length) (md := md) B (fun e he => ?_) hbd hu0 (Nat.le_refl _)
    obtain rfl := List.mem_singleton.1 he
    exact L.sat.good _ (by simp [memW])
  refine at_run (cntG 90 (elseT tX0)) (elseT tX0) w1.heap.size _ [] tX1 [(1, pt w.heap.size 0), (4, .int .i64 op), (15, .bool (op == 2))] w1.heap.size (memW w (exC op num den mu hu du nm cnt md A kids.length c)) L (by kernel_rfl) fun y0 F0 L2 K => ?_
  replace B := below_own B K
  replace L := lies_sz (lies_any L2)
  clear L2 K
  have q0 : op ≠ 1 := by simpa using hop
  clear hop
  refine at_cond (op == 2) (by kernel_rfl) (fun hop => ?_) (fun hop => ?_)
  · obtain rfl : op = 2 := by simpa using hop
    refine at_run (cntG 90 (thenT tX1)) (thenT tX1) y0.heap.size _ [(0, 7)] (advG (thenT tX1)) [(1, pt w.heap.size 0), (19, .bool (cnt == 1))] y0.heap.size (memW w (exC 2 num den mu hu du nm cnt md A kids.length c)) L (by kernel_rfl) fun w8 E8 L2 K => ?_
    replace B := below_own B K
    replace L := lies_sz (lies_any L2)
    clear L2 K
    refine at_cond (cnt == 1) (by kernel_rfl) (fun _ => ?_) (fun _ => ?_)
    · refine at_end [] (.string ⟨#[116, 114, 117, 101]⟩) (fn := Tryz.f57) (by kernel_rfl) (lies_nil w8) (by kernel_rfl) fun w9 hK => ⟨⟨_, rfl, ?_⟩, B.trans ((below_kept hK).mono B.size)⟩
      show 4 ≤ _; omega
    · refine at_end [] (.string ⟨#[102, 97, 108, 115, 101]⟩) (fn := Tryz.f57) (by kernel_rfl) (lies_nil w8) (by kernel_rfl) fun w9 hK => ⟨⟨_, rfl, ?_⟩, B.trans ((below_kept hK).mono B.size)⟩
      show 5 ≤ _; omega
  refine at_run (cntG 90 (elseT tX1)) (elseT tX1) y0.heap.size _ [] tX2 [(1, pt w.heap.size 0), (4, .int .i64 op), (20, .bool (op == 3))] y0.heap.size (memW w (exC op num den mu hu du nm cnt md A kids.length c)) L (by kernel_rfl) fun y1 F1 L2 K => ?_
  replace B := below_own B K
  replace L := lies_sz (lies_any L2)
  clear L2 K
  have q1 : op ≠ 2 := by simpa using hop
  clear hop
  refine at_cond (op == 3) (by kernel_rfl) (fun hop => ?_) (fun hop => ?_)
  · obtain rfl : op = 3 := by simpa using hop
    refine at_run (cntG 90 (thenT tX2)) (thenT tX2) y1.heap.size _ [(0, 6)] (advG (thenT tX2)) [(2, .string ⟨nm.toArray⟩)] y1.heap.size (memW w (exC 3 num den mu hu du nm cnt md A kids.length c)) L (by kernel_rfl) fun w8 E8 L2 K => ?_
    replace B := below_own B K
    replace L := lies_sz (lies_any L2)
    clear L2 K
    refine at_end [] (.string ⟨nm.toArray⟩) (fn := Tryz.f57) (by kernel_rfl) (lies_nil w8) (by kernel_rfl) fun w9 hK => ⟨⟨_, rfl, ?_⟩, B.trans ((below_kept hK).mono B.size)⟩
    omega
  refine at_run (cntG 90 (elseT tX2)) (elseT tX2) y1.heap.size _ [] tX3 [(1, pt w.heap.size 0), (4, .int .i64 op), (24, .bool (op == 4))] y1.heap.size (memW w (exC op num den mu hu du nm cnt md A kids.length c)) L (by kernel_rfl) fun y2 F2 L2 K => ?_
  replace B := below_own B K
  replace L := lies_sz (lies_any L2)
  clear L2 K
  have q2 : op ≠ 3 := by simpa using hop
  clear hop
  refine at_cond (op == 4) (by kernel_rfl) (fun hop => ?_) (fun hop => ?_)
  · obtain rfl : op = 4 := by simpa using hop
    refine at_run (cntA 11 90 (thenT tX3)) (thenT tX3) y2.heap.size _ [] tR11 [(1, pt w.heap.size 0)] y2.heap.size (memW w (exC 4 num den mu hu du nm cnt md A kids.length c)) L (by kernel_rfl) fun w8 E8 L2 K => ?_
    replace B := below_own B K
    replace L := lies_sz (lies_any L2)
    clear L2 K
    have hkl : kids.length = 1 := har.trans (by decide)
    obtain ⟨ka, rfl⟩ := len_one hkl
    clear hkl har
    rcases hrows with rfl | ⟨g, off, rfl, _, hg, hcell⟩
    · unfold exsS at hks; obtain ⟨_, _, h0, _⟩ := hks; cases h0
    obtain ⟨ra, hra, hxa⟩ := exsS_get hks (show [ka][0]? = some ka from rfl)
    obtain ⟨a0, a1, a2, a3, a4, a5, a6, a7, a8, a9, rfl, hga, hta, hoa⟩ := kid_ok It Io (o := off) hxa (Nat.le_trans (heights_get (show [ka][0]? = some ka from rfl)) hhk) (okEs_get oks (show [ka][0]? = some ka from rfl)) (fun j u hj => by have := hcell 0 _ hra j u hj; simpa using this) hg
    refine tx11 (T := T) (w := w) (num := num) (den := den) (mu := mu) (hu := hu) (du := du) (nm := nm) (cnt := cnt) (c := c) (g := g) (off := off) (md := md) B (fun e he => ?_) hbd hnm' (fun u hq => hta u (B.trans (hq.mono B.size))) (Nat.le_refl _)
    rcases List.mem_cons.1 he with rfl | he
    · exact L.sat.good _ (by simp [memW])
    simp only [List.mem_cons, List.not_mem_nil, or_false] at he
    rcases he with rfl
    · exact hga _ B
  refine at_run (cntG 90 (elseT tX3)) (elseT tX3) y2.heap.size _ [] tX4 [(1, pt w.heap.size 0), (4, .int .i64 op), (36, .bool (op == 14))] y2.heap.size (memW w (exC op num den mu hu du nm cnt md A kids.length c)) L (by kernel_rfl) fun y3 F3 L2 K => ?_
  replace B := below_own B K
  replace L := lies_sz (lies_any L2)
  clear L2 K
  have q3 : op ≠ 4 := by simpa using hop
  clear hop
  refine at_cond (op == 14) (by kernel_rfl) (fun hop => ?_) (fun hop => ?_)
  · obtain rfl : op = 14 := by simpa using hop
    refine at_run (cntA 13 90 (thenT tX4)) (thenT tX4) y3.heap.size _ [] tR13 [(1, pt w.heap.size 0)] y3.heap.size (memW w (exC 14 num den mu hu du nm cnt md A kids.length c)) L (by kernel_rfl) fun w8 E8 L2 K => ?_
    replace B := below_own B K
    replace L := lies_sz (lies_any L2)
    clear L2 K
    have hkl : kids.length = 2 := har.trans (by decide)
    obtain ⟨ka, kb, rfl⟩ := len_two hkl
    clear hkl har
    rcases hrows with rfl | ⟨g, off, rfl, _, hg, hcell⟩
    · unfold exsS at hks; obtain ⟨_, _, h0, _⟩ := hks; cases h0
    obtain ⟨ra, hra, hxa⟩ := exsS_get hks (show [ka, kb][0]? = some ka from rfl)
    obtain ⟨a0, a1, a2, a3, a4, a5, a6, a7, a8, a9, rfl, hga, hta, hoa⟩ := kid_ok It Io (o := off) hxa (Nat.le_trans (heights_get (show [ka, kb][0]? = some ka from rfl)) hhk) (okEs_get oks (show [ka, kb][0]? = some ka from rfl)) (fun j u hj => by have := hcell 0 _ hra j u hj; simpa using this) hg
    obtain ⟨rb, hrb, hxb⟩ := exsS_get hks (show [ka, kb][1]? = some kb from rfl)
    obtain ⟨b0, b1, b2, b3, b4, b5, b6, b7, b8, b9, rfl, hgb, htb, hob⟩ := kid_ok It Io (o := off + 10) hxb (Nat.le_trans (heights_get (show [ka, kb][1]? = some kb from rfl)) hhk) (okEs_get oks (show [ka, kb][1]? = some kb from rfl)) (fun j u hj => by have := hcell 1 _ hrb j u hj; simpa using this) hg
    refine tx13 (T := T) (w := w) (num := num) (den := den) (mu := mu) (hu := hu) (du := du) (nm := nm) (cnt := cnt) (c := c) (g := g) (off := off) (md := md) B (fun e he => ?_) hbd (fun u hq => hta u (B.trans (hq.mono B.size))) (fun u hq => htb u (B.trans (hq.mono B.size))) (Nat.le_refl _)
    rcases List.mem_cons.1 he with rfl | he
    · exact L.sat.good _ (by simp [memW])
    simp only [List.mem_cons, List.not_mem_nil, or_false] at he
    rcases he with rfl | rfl
    · exact hga _ B
    · exact hgb _ B
  refine at_run (cntG 90 (elseT tX4)) (elseT tX4) y3.heap.size _ [] tX5 [(1, pt w.heap.size 0), (4, .int .i64 op), (52, .bool (op == 15))] y3.heap.size (memW w (exC op num den mu hu du nm cnt md A kids.length c)) L (by kernel_rfl) fun y4 F4 L2 K => ?_
  replace B := below_own B K
  replace L := lies_sz (lies_any L2)
  clear L2 K
  have q4 : op ≠ 14 := by simpa using hop
  clear hop
  refine at_cond (op == 15) (by kernel_rfl) (fun hop => ?_) (fun hop => ?_)
  · obtain rfl : op = 15 := by simpa using hop
    refine at_run (cntA 15 90 (thenT tX5)) (thenT tX5) y4.heap.size _ [] tR15 [(1, pt w.heap.size 0)] y4.heap.size (memW w (exC 15 num den mu hu du nm cnt md A kids.length c)) L (by kernel_rfl) fun w8 E8 L2 K => ?_
    replace B := below_own B K
    replace L := lies_sz (lies_any L2)
    clear L2 K
    have hkl : kids.length = 2 := har.trans (by decide)
    obtain ⟨ka, kb, rfl⟩ := len_two hkl
    clear hkl har
    rcases hrows with rfl | ⟨g, off, rfl, _, hg, hcell⟩
    · unfold exsS at hks; obtain ⟨_, _, h0, _⟩ := hks; cases h0
    obtain ⟨ra, hra, hxa⟩ := exsS_get hks (show [ka, kb][0]? = some ka from rfl)
    obtain ⟨a0, a1, a2, a3, a4, a5, a6, a7, a8, a9, rfl, hga, hta, hoa⟩ := kid_ok It Io (o := off) hxa (Nat.le_trans (heights_get (show [ka, kb][0]? = some ka from rfl)) hhk) (okEs_get oks (show [ka, kb][0]? = some ka from rfl)) (fun j u hj => by have := hcell 0 _ hra j u hj; simpa using this) hg
    obtain ⟨rb, hrb, hxb⟩ := exsS_get hks (show [ka, kb][1]? = some kb from rfl)
    obtain ⟨b0, b1, b2, b3, b4, b5, b6, b7, b8, b9, rfl, hgb, htb, hob⟩ := kid_ok It Io (o := off + 10) hxb (Nat.le_trans (heights_get (show [ka, kb][1]? = some kb from rfl)) hhk) (okEs_get oks (show [ka, kb][1]? = some kb from rfl)) (fun j u hj => by have := hcell 1 _ hrb j u hj; simpa using this) hg
    refine tx15 (T := T) (w := w) (num := num) (den := den) (mu := mu) (hu := hu) (du := du) (nm := nm) (cnt := cnt) (c := c) (g := g) (off := off) (md := md) B (fun e he => ?_) hbd (fun u hq => hta u (B.trans (hq.mono B.size))) (fun u hq => htb u (B.trans (hq.mono B.size))) (Nat.le_refl _)
    rcases List.mem_cons.1 he with rfl | he
    · exact L.sat.good _ (by simp [memW])
    simp only [List.mem_cons, List.not_mem_nil, or_false] at he
    rcases he with rfl | rfl
    · exact hga _ B
    · exact hgb _ B
  refine at_run (cntG 90 (elseT tX5)) (elseT tX5) y4.heap.size _ [] tX6 [(1, pt w.heap.size 0), (4, .int .i64 op), (68, .bool (op == 16))] y4.heap.size (memW w (exC op num den mu hu du nm cnt md A kids.length c)) L (by kernel_rfl) fun y5 F5 L2 K => ?_
  replace B := below_own B K
  replace L := lies_sz (lies_any L2)
  clear L2 K
  have q5 : op ≠ 15 := by simpa using hop
  clear hop
  refine at_cond (op == 16) (by kernel_rfl) (fun hop => ?_) (fun hop => ?_)
  · obtain rfl : op = 16 := by simpa using hop
    refine at_run (cntA 17 90 (thenT tX6)) (thenT tX6) y5.heap.size _ [] tR17 [(1, pt w.heap.size 0)] y5.heap.size (memW w (exC 16 num den mu hu du nm cnt md A kids.length c)) L (by kernel_rfl) fun w8 E8 L2 K => ?_
    replace B := below_own B K
    replace L := lies_sz (lies_any L2)
    clear L2 K
    have hkl : kids.length = 1 := har.trans (by decide)
    obtain ⟨ka, rfl⟩ := len_one hkl
    clear hkl har
    rcases hrows with rfl | ⟨g, off, rfl, _, hg, hcell⟩
    · unfold exsS at hks; obtain ⟨_, _, h0, _⟩ := hks; cases h0
    obtain ⟨ra, hra, hxa⟩ := exsS_get hks (show [ka][0]? = some ka from rfl)
    obtain ⟨a0, a1, a2, a3, a4, a5, a6, a7, a8, a9, rfl, hga, hta, hoa⟩ := kid_ok It Io (o := off) hxa (Nat.le_trans (heights_get (show [ka][0]? = some ka from rfl)) hhk) (okEs_get oks (show [ka][0]? = some ka from rfl)) (fun j u hj => by have := hcell 0 _ hra j u hj; simpa using this) hg
    refine tx17 (T := T) (w := w) (num := num) (den := den) (mu := mu) (hu := hu) (du := du) (nm := nm) (cnt := cnt) (c := c) (g := g) (off := off) (md := md) B (fun e he => ?_) hbd (fun u hq => hoa u (B.trans (hq.mono B.size))) (Nat.le_refl _)
    rcases List.mem_cons.1 he with rfl | he
    · exact L.sat.good _ (by simp [memW])
    simp only [List.mem_cons, List.not_mem_nil, or_false] at he
    rcases he with rfl
    · exact hga _ B
  refine at_run (cntG 90 (elseT tX6)) (elseT tX6) y5.heap.size _ [] tX7 [(1, pt w.heap.size 0), (4, .int .i64 op), (76, .bool (op == 17))] y5.heap.size (memW w (exC op num den mu hu du nm cnt md A kids.length c)) L (by kernel_rfl) fun y6 F6 L2 K => ?_
  replace B := below_own B K
  replace L := lies_sz (lies_any L2)
  clear L2 K
  have q6 : op ≠ 16 := by simpa using hop
  clear hop
  refine at_cond (op == 17) (by kernel_rfl) (fun hop => ?_) (fun hop => ?_)
  · obtain rfl : op = 17 := by simpa using hop
    refine at_run (cntA 19 90 (thenT tX7)) (thenT tX7) y6.heap.size _ [] tR19 [(1, pt w.heap.size 0)] y6.heap.size (memW w (exC 17 num den mu hu du nm cnt md A kids.length c)) L (by kernel_rfl) fun w8 E8 L2 K => ?_
    replace B := below_own B K
    replace L := lies_sz (lies_any L2)
    clear L2 K
    have hkl : kids.length = 1 := har.trans (by decide)
    obtain ⟨ka, rfl⟩ := len_one hkl
    clear hkl har
    rcases hrows with rfl | ⟨g, off, rfl, _, hg, hcell⟩
    · unfold exsS at hks; obtain ⟨_, _, h0, _⟩ := hks; cases h0
    obtain ⟨ra, hra, hxa⟩ := exsS_get hks (show [ka][0]? = some ka from rfl)
    obtain ⟨a0, a1, a2, a3, a4, a5, a6, a7, a8, a9, rfl, hga, hta, hoa⟩ := kid_ok It Io (o := off) hxa (Nat.le_trans (heights_get (show [ka][0]? = some ka from rfl)) hhk) (okEs_get oks (show [ka][0]? = some ka from rfl)) (fun j u hj => by have := hcell 0 _ hra j u hj; simpa using this) hg
    refine tx19 (T := T) (w := w) (num := num) (den := den) (mu := mu) (hu := hu) (du := du) (nm := nm) (cnt := cnt) (c := c) (g := g) (off := off) (md := md) B (fun e he => ?_) hbd (fun u hq => hoa u (B.trans (hq.mono B.size))) (Nat.le_refl _)
    rcases List.mem_cons.1 he with rfl | he
    · exact L.sat.good _ (by simp [memW])
    simp only [List.mem_cons, List.not_mem_nil, or_false] at he
    rcases he with rfl
    · exact hga _ B
  refine at_run (cntG 90 (elseT tX7)) (elseT tX7) y6.heap.size _ [] tX8 [(1, pt w.heap.size 0), (4, .int .i64 op), (84, .bool (op == 18))] y6.heap.size (memW w (exC op num den mu hu du nm cnt md A kids.length c)) L (by kernel_rfl) fun y7 F7 L2 K => ?_
  replace B := below_own B K
  replace L := lies_sz (lies_any L2)
  clear L2 K
  have q7 : op ≠ 17 := by simpa using hop
  clear hop
  refine at_cond (op == 18) (by kernel_rfl) (fun hop => ?_) (fun hop => ?_)
  · obtain rfl : op = 18 := by simpa using hop
    refine at_run (cntA 21 90 (thenT tX8)) (thenT tX8) y7.heap.size _ [] tR21 [(1, pt w.heap.size 0)] y7.heap.size (memW w (exC 18 num den mu hu du nm cnt md A kids.length c)) L (by kernel_rfl) fun w8 E8 L2 K => ?_
    replace B := below_own B K
    replace L := lies_sz (lies_any L2)
    clear L2 K
    have hkl : kids.length = 3 := har.trans (by decide)
    obtain ⟨ka, kb, kc, rfl⟩ := len_three hkl
    clear hkl har
    rcases hrows with rfl | ⟨g, off, rfl, _, hg, hcell⟩
    · unfold exsS at hks; obtain ⟨_, _, h0, _⟩ := hks; cases h0
    obtain ⟨ra, hra, hxa⟩ := exsS_get hks (show [ka, kb, kc][0]? = some ka from rfl)
    obtain ⟨a0, a1, a2, a3, a4, a5, a6, a7, a8, a9, rfl, hga, hta, hoa⟩ := kid_ok It Io (o := off) hxa (Nat.le_trans (heights_get (show [ka, kb, kc][0]? = some ka from rfl)) hhk) (okEs_get oks (show [ka, kb, kc][0]? = some ka from rfl)) (fun j u hj => by have := hcell 0 _ hra j u hj; simpa using this) hg
    obtain ⟨rb, hrb, hxb⟩ := exsS_get hks (show [ka, kb, kc][1]? = some kb from rfl)
    obtain ⟨b0, b1, b2, b3, b4, b5, b6, b7, b8, b9, rfl, hgb, htb, hob⟩ := kid_ok It Io (o := off + 10) hxb (Nat.le_trans (heights_get (show [ka, kb, kc][1]? = some kb from rfl)) hhk) (okEs_get oks (show [ka, kb, kc][1]? = some kb from rfl)) (fun j u hj => by have := hcell 1 _ hrb j u hj; simpa using this) hg
    obtain ⟨rc, hrc, hxc⟩ := exsS_get hks (show [ka, kb, kc][2]? = some kc from rfl)
    obtain ⟨c0, c1, c2, c3, c4, c5, c6, c7, c8, c9, rfl, hgc, htc, hoc⟩ := kid_ok It Io (o := off + 20) hxc (Nat.le_trans (heights_get (show [ka, kb, kc][2]? = some kc from rfl)) hhk) (okEs_get oks (show [ka, kb, kc][2]? = some kc from rfl)) (fun j u hj => by have := hcell 2 _ hrc j u hj; simpa using this) hg
    refine tx21 (T := T) (w := w) (num := num) (den := den) (mu := mu) (hu := hu) (du := du) (nm := nm) (cnt := cnt) (c := c) (g := g) (off := off) (md := md) B (fun e he => ?_) hbd (fun u hq => hoa u (B.trans (hq.mono B.size))) (fun u hq => hob u (B.trans (hq.mono B.size))) (fun u hq => hoc u (B.trans (hq.mono B.size))) (Nat.le_refl _)
    rcases List.mem_cons.1 he with rfl | he
    · exact L.sat.good _ (by simp [memW])
    simp only [List.mem_cons, List.not_mem_nil, or_false] at he
    rcases he with rfl | rfl | rfl
    · exact hga _ B
    · exact hgb _ B
    · exact hgc _ B
  refine at_run (cntG 90 (elseT tX8)) (elseT tX8) y7.heap.size _ [] tX9 [(1, pt w.heap.size 0), (4, .int .i64 op), (106, .bool (op == 19))] y7.heap.size (memW w (exC op num den mu hu du nm cnt md A kids.length c)) L (by kernel_rfl) fun y8 F8 L2 K => ?_
  replace B := below_own B K
  replace L := lies_sz (lies_any L2)
  clear L2 K
  have q8 : op ≠ 18 := by simpa using hop
  clear hop
  refine at_cond (op == 19) (by kernel_rfl) (fun hop => ?_) (fun hop => ?_)
  · obtain rfl : op = 19 := by simpa using hop
    refine at_run (cntA 23 90 (thenT tX9)) (thenT tX9) y8.heap.size _ [] tR23 [(1, pt w.heap.size 0)] y8.heap.size (memW w (exC 19 num den mu hu du nm cnt md A kids.length c)) L (by kernel_rfl) fun w8 E8 L2 K => ?_
    replace B := below_own B K
    replace L := lies_sz (lies_any L2)
    clear L2 K
    have hkl : kids.length = 1 := har.trans (by decide)
    obtain ⟨ka, rfl⟩ := len_one hkl
    clear hkl har
    rcases hrows with rfl | ⟨g, off, rfl, _, hg, hcell⟩
    · unfold exsS at hks; obtain ⟨_, _, h0, _⟩ := hks; cases h0
    obtain ⟨ra, hra, hxa⟩ := exsS_get hks (show [ka][0]? = some ka from rfl)
    obtain ⟨a0, a1, a2, a3, a4, a5, a6, a7, a8, a9, rfl, hga, hta, hoa⟩ := kid_ok It Io (o := off) hxa (Nat.le_trans (heights_get (show [ka][0]? = some ka from rfl)) hhk) (okEs_get oks (show [ka][0]? = some ka from rfl)) (fun j u hj => by have := hcell 0 _ hra j u hj; simpa using this) hg
    obtain ⟨mdn, rfl⟩ := Int.eq_ofNat_of_zero_le e1
    refine tx23 (T := T) (w := w) (num := num) (den := den) (mu := mu) (hu := hu) (du := du) (nm := nm) (cnt := cnt) (c := c) (g := g) (off := off) B (fun e he => ?_) hbd hu0 (show mdn < 7 by omega) (mode_word (by omega)) (fun u hq => hta u (B.trans (hq.mono B.size))) (Nat.le_refl _)
    rcases List.mem_cons.1 he with rfl | he
    · exact L.sat.good _ (by simp [memW])
    simp only [List.mem_cons, List.not_mem_nil, or_false] at he
    rcases he with rfl
    · exact hga _ B
  refine at_run (cntG 90 (elseT tX9)) (elseT tX9) y8.heap.size _ [] tX10 [(1, pt w.heap.size 0), (4, .int .i64 op), (132, .bool (op == 20))] y8.heap.size (memW w (exC op num den mu hu du nm cnt md A kids.length c)) L (by kernel_rfl) fun y9 F9 L2 K => ?_
  replace B := below_own B K
  replace L := lies_sz (lies_any L2)
  clear L2 K
  have q9 : op ≠ 19 := by simpa using hop
  clear hop
  refine at_cond (op == 20) (by kernel_rfl) (fun hop => ?_) (fun hop => ?_)
  · obtain rfl : op = 20 := by simpa using hop
    refine at_run (cntA 25 90 (thenT tX10)) (thenT tX10) y9.heap.size _ [] tR25 [(1, pt w.heap.size 0)] y9.heap.size (memW w (exC 20 num den mu hu du nm cnt md A kids.length c)) L (by kernel_rfl) fun w8 E8 L2 K => ?_
    replace B := below_own B K
    replace L := lies_sz (lies_any L2)
    clear L2 K
    refine tx25 (T := T) (w := w) (num := num) (den := den) (mu := mu) (hu := hu) (du := du) (nm := nm) (cnt := cnt) (c := c) (A := A) (kn := kids.length) (md := md) B (fun e he => ?_) hbd hnm' (Nat.le_refl _)
    obtain rfl := List.mem_singleton.1 he
    exact L.sat.good _ (by simp [memW])
  refine at_run (cntG 90 (elseT tX10)) (elseT tX10) y9.heap.size _ [] tX11 [(1, pt w.heap.size 0), (4, .int .i64 op), (144, .bool (op == 21))] y9.heap.size (memW w (exC op num den mu hu du nm cnt md A kids.length c)) L (by kernel_rfl) fun y10 F10 L2 K => ?_
  replace B := below_own B K
  replace L := lies_sz (lies_any L2)
  clear L2 K
  have q10 : op ≠ 20 := by simpa using hop
  clear hop
  refine at_cond (op == 21) (by kernel_rfl) (fun hop => ?_) (fun hop => ?_)
  · obtain rfl : op = 21 := by simpa using hop
    refine at_run (cntA 27 90 (thenT tX11)) (thenT tX11) y10.heap.size _ [] tR27 [(1, pt w.heap.size 0)] y10.heap.size (memW w (exC 21 num den mu hu du nm cnt md A kids.length c)) L (by kernel_rfl) fun w8 E8 L2 K => ?_
    replace B := below_own B K
    replace L := lies_sz (lies_any L2)
    clear L2 K
    refine tx27 (T := T) (w := w) (num := num) (den := den) (mu := mu) (hu := hu) (du := du) (nm := nm) (cnt := cnt) (c := c) (A := A) (kn := kids.length) (md := md) B (fun e he => ?_) hbd hnm' (Nat.le_refl _)
    obtain rfl := List.mem_singleton.1 he
    exact L.sat.good _ (by simp [memW])
  have q11 : op ≠ 21 := by simpa using hop
  clear hop
  refine at_run (cntA 28 90 (elseT tX11)) (elseT tX11) y10.heap.size _ [] tR28 [(1, pt w.heap.size 0)] y10.heap.size (memW w (exC op num den mu hu du nm cnt md A kids.length c)) L (by kernel_rfl) fun w8 E8 L2 K => ?_
  replace B := below_own B K
  replace L := lies_sz (lies_any L2)
  clear L2 K
  have hkl : kids.length = 2 := by rw [har]; unfold arity; rw [if_neg (by omega), if_pos (by omega)]
  obtain ⟨ka, kb, rfl⟩ := len_two hkl
  clear hkl har
  rcases hrows with rfl | ⟨g, off, rfl, _, hg, hcell⟩
  · unfold exsS at hks; obtain ⟨_, _, h0, _⟩ := hks; cases h0
  obtain ⟨ra, hra, hxa⟩ := exsS_get hks (show [ka, kb][0]? = some ka from rfl)
  obtain ⟨a0, a1, a2, a3, a4, a5, a6, a7, a8, a9, rfl, hga, hta, hoa⟩ := kid_ok It Io (o := off) hxa (Nat.le_trans (heights_get (show [ka, kb][0]? = some ka from rfl)) hhk) (okEs_get oks (show [ka, kb][0]? = some ka from rfl)) (fun j u hj => by have := hcell 0 _ hra j u hj; simpa using this) hg
  obtain ⟨rb, hrb, hxb⟩ := exsS_get hks (show [ka, kb][1]? = some kb from rfl)
  obtain ⟨b0, b1, b2, b3, b4, b5, b6, b7, b8, b9, rfl, hgb, htb, hob⟩ := kid_ok It Io (o := off + 10) hxb (Nat.le_trans (heights_get (show [ka, kb][1]? = some kb from rfl)) hhk) (okEs_get oks (show [ka, kb][1]? = some kb from rfl)) (fun j u hj => by have := hcell 1 _ hrb j u hj; simpa using this) hg
  refine tx28 (T := T) (w := w) (op := op) (num := num) (den := den) (mu := mu) (hu := hu) (du := du) (nm := nm) (cnt := cnt) (c := c) (g := g) (off := off) (md := md) B (fun e he => ?_) hbd (fun u hq => hoa u (B.trans (hq.mono B.size))) (fun u hq => hob u (B.trans (hq.mono B.size))) (Nat.le_refl _)
  rcases List.mem_cons.1 he with rfl | he
  · exact L.sat.good _ (by simp [memW])
  simp only [List.mem_cons, List.not_mem_nil, or_false] at he
  rcases he with rfl | rfl
  · exact hga _ B
  · exact hgb _ B
end
end Go.Proofs.YtpdbkbadjgellaaGreatDoor

namespace Go.Proofs.YtpdbkbadjgellaaGreatDoor
open Go.RowKit
section
set_option maxRecDepth 100000
noncomputable def codeOpr : Code := Tryz.f89.body.getD .skip
noncomputable def tP0 : List Item := advG [.code codeOpr]
noncomputable def tP1 : List Item := advG (tailT tP0)
noncomputable def tP2 : List Item := advA 2 (thenT tP1)
noncomputable def tP3 : List Item := advA 3 (elseT tP1)
def WP2 : Wr := [(26, 0), (27, 1), (28, 2), (29, 3), (2, 4)]
theorem ox2 {w wr : World} {E : Nat → Value} {T : Nat} {op num den mu hu du cnt md : Int} {nm : List UInt8} {A : Option Addr} {kn c : Nat} (hB : Below w.heap.size w wr) (hg : ∀ e ∈ ([⟨w.heap.size, 0, exC op num den mu hu du nm cnt md A kn c, 91, true⟩] : List Ent), e.good wr) (hbd : ∀ k, k ≤ 4 * T + 5000 → Nat.ble k 4000000000000000000 = true) (hc : ∀ u, Below wr.heap.size wr u → Calls Tryz.prog 57 [.agg (exC op num den mu hu du nm cnt md A kn c).toArray].toArray u (Short T u)) :
    At Tryz.prog 89 (Short (T + 4) w) tP2 (Fr 32 (updL E [(1, pt w.heap.size 0)])) wr := by
  refine at_text (fn := Tryz.f89) (ops := (curReg tP2).getD #[]) WP2 ([pureL 0 [] (.agg (exC op num den mu hu du nm cnt md A kn c).toArray), strL 1 [0] (T), strL 2 [0, 1] (2 + T), strL 3 [0, 1, 2] (2 + T + 2), strL 4 [0, 1, 2, 3] (2 + T + 2)]) 2 4 4 (2 + T + 2) [0, 1, 2, 3] (by kernel_rfl) hB (by omega) (by kernel_rfl) (by kernel_rfl) (by kernel_rfl) (by kernel_rfl) (by kernel_rfl) (by kernel_rfl) rfl (fun _ => by kernel_rfl) (fun _ _ _ => by kernel_rfl) ?_
  exact ⟨part_reads ([⟨w.heap.size, 0, exC op num den mu hu du nm cnt md A kn c, 91, true⟩]) (0, 0) [] (by kernel_rfl) (fun _ _ h => trivial) hg (fun _ => by kernel_rfl) (fun _ => by kernel_rfl),
    part_call [.tmp 26] [.agg (exC op num den mu hu du nm cnt md A kn c).toArray] (by kernel_rfl) (by kernel_rfl) (fun vals _ h => by simp only [List.map_cons, List.map_nil]; rw [show evalVE 32 _ _ vals (.tmp 26) = vals 0 from rfl, val_of h 0 rfl rfl]) (fun u hq => hc u hq),
    part_add (a := 2) (b := T) (.const (.string ⟨#[40, 32]⟩)) (.tmp 27) (by kernel_rfl) (.const ⟨#[40, 32]⟩ (by kernel_rfl)) (.tmp 1 rfl rfl rfl) (by omega) (hbd _ (by omega)),
    part_add (a := 2 + T) (b := 2) (.tmp 28) (.const (.string ⟨#[32, 41]⟩)) (by kernel_rfl) (.tmp 2 rfl rfl rfl) (.const ⟨#[32, 41]⟩ (by kernel_rfl)) (by omega) (hbd _ (by omega)),
    part_move (.tmp 29) (by kernel_rfl) (.tmp 3 rfl rfl rfl), trivial⟩
def WP3 : Wr := [(30, 0), (31, 1), (2, 2)]
theorem ox3 {w wr : World} {E : Nat → Value} {T : Nat} {op num den mu hu du cnt md : Int} {nm : List UInt8} {A : Option Addr} {kn c : Nat} (hB : Below w.heap.size w wr) (hg : ∀ e ∈ ([⟨w.heap.size, 0, exC op num den mu hu du nm cnt md A kn c, 91, true⟩] : List Ent), e.good wr) (_hbd : ∀ k, k ≤ 4 * T + 5000 → Nat.ble k 4000000000000000000 = true) (hc : ∀ u, Below wr.heap.size wr u → Calls Tryz.prog 57 [.agg (exC op num den mu hu du nm cnt md A kn c).toArray].toArray u (Short T u)) :
    At Tryz.prog 89 (Short (T + 4) w) tP3 (Fr 32 (updL E [(1, pt w.heap.size 0)])) wr := by
  refine at_text (fn := Tryz.f89) (ops := (curReg tP3).getD #[]) WP3 ([pureL 0 [] (.agg (exC op num den mu hu du nm cnt md A kn c).toArray), strL 1 [0] (T), strL 2 [0, 1] (T)]) 2 2 2 (T) [0, 1] (by kernel_rfl) hB (by omega) (by kernel_rfl) (by kernel_rfl) (by kernel_rfl) (by kernel_rfl) (by kernel_rfl) (by kernel_rfl) rfl (fun _ => by kernel_rfl) (fun _ _ _ => by kernel_rfl) ?_
  exact ⟨part_reads ([⟨w.heap.size, 0, exC op num den mu hu du nm cnt md A kn c, 91, true⟩]) (0, 0) [] (by kernel_rfl) (fun _ _ h => trivial) hg (fun _ => by kernel_rfl) (fun _ => by kernel_rfl),
    part_call [.tmp 30] [.agg (exC op num den mu hu du nm cnt md A kn c).toArray] (by kernel_rfl) (by kernel_rfl) (fun vals _ h => by simp only [List.map_cons, List.map_nil]; rw [show evalVE 32 _ _ vals (.tmp 30) = vals 0 from rfl, val_of h 0 rfl rfl]) (fun u hq => hc u hq),
    part_move (.tmp 31) (by kernel_rfl) (.tmp 1 rfl rfl rfl), trivial⟩
def operB (op : Int) : Bool := (((decide (5 ≤ op) && decide (op ≤ 13)) || op == 16) || op == 17) || op == 18
theorem oper_step {n T : Nat} (hT : T ≤ 100000000000000000) (It : TextSaid n T) : OperSaid n (T + 4) := by
  rintro ⟨op, num, den, mu, hu, du, nm, cnt, md, kids⟩ cs w hh ok hx
  have hx' := hx
  unfold exS at hx'
  obtain ⟨A, c, ks, rfl, _, _⟩ := hx'
  have hbd : ∀ k, k ≤ 4 * T + 5000 → Nat.ble k 4000000000000000000 = true := fun k hk => Nat.ble_eq_true_of_le (by omega)
  have hc : ∀ u, Below w.heap.size w u → Calls Tryz.prog 57 [.agg (exC op num den mu hu du nm cnt md A kids.length c).toArray].toArray u (Short T u) := fun u hu' => It _ _ u hh ok (exS.keep hu'.size (fun g' _ hg' => ⟨trivial, hu'.block g' hg'⟩) _ _ hx)
  suffices goal : Calls Tryz.prog 89 [.agg (exC op num den mu hu du nm cnt md A kids.length c).toArray].toArray w (Short (T + 4) w) from goal
  refine calls_at (args := [.agg (exC op num den mu hu du nm cnt md A kids.length c).toArray]) (fn := Tryz.f89) (c := codeOpr) (n := 32) (by kernel_rfl) (by kernel_rfl) (by kernel_rfl) (by kernel_rfl) ?_
  refine at_run (cntG 90 [.code codeOpr]) [.code codeOpr] w.heap.size [] [] tP0 [(1, pt w.heap.size 0)] (w.heap.size + 1) (memW w (exC op num den mu hu du nm cnt md A kids.length c)) (lies_nil w) (by kernel_rfl) fun w1 E1 L K => ?_
  have B := below_kept K
  replace L := lies_sz (lies_any L)
  clear K
  refine at_ghost ((curReg tP0).getD #[]) ⟨memW w (exC op num den mu hu du nm cnt md A kids.length c), [(1, 0, 0), (5, 0, 0), (10, 0, 0), (15, 0, 0), (20, 0, 0)], []⟩ [(1, pt w.heap.size 0), (25, .bool (operB op))] (by kernel_rfl) (by kernel_rfl) (by kernel_rfl) L.sat.good (fun e he => (by cases he)) (fun X => by kernel_rfl) (by kernel_rfl) fun w2 E2 hB2 => ?_
  replace B := B.trans (hB2.mono B.size)
  replace L := lies_sz (lies_below L hB2)
  clear hB2
  refine at_run (cntG 90 (tailT tP0)) (tailT tP0) w2.heap.size _ [] tP1 [(1, pt w.heap.size 0), (25, .bool (operB op))] w2.heap.size (memW w (exC op num den mu hu du nm cnt md A kids.length c)) L (by kernel_rfl) fun w3 E3 L2 K => ?_
  replace B := below_own B K
  replace L := lies_sz (lies_any L2)
  clear L2 K
  refine at_cond (operB op) (by kernel_rfl) (fun _ => ?_) (fun _ => ?_)
  · refine at_run (cntA 2 90 (thenT tP1)) (thenT tP1) w3.heap.size _ [] tP2 [(1, pt w.heap.size 0)] w3.heap.size (memW w (exC op num den mu hu du nm cnt md A kids.length c)) L (by kernel_rfl) fun w4 E4 L2 K => ?_
    replace B := below_own B K
    exact ox2 B (fun e he => L2.sat.good e he) hbd (fun u hq => hc u (B.trans (hq.mono B.size)))
  · refine at_run (cntA 3 90 (elseT tP1)) (elseT tP1) w3.heap.size _ [] tP3 [(1, pt w.heap.size 0)] w3.heap.size (memW w (exC op num den mu hu du nm cnt md A kids.length c)) L (by kernel_rfl) fun w4 E4 L2 K => ?_
    replace B := below_own B K
    exact ox3 B (fun e he => L2.sat.good e he) hbd (fun u hq => hc u (B.trans (hq.mono B.size)))
def TT : Nat → Nat
  | 0 => 0
  | n + 1 => 4 * (TT n + 4) + 400
theorem TextSaid.mono {n T T' : Nat} (h : TextSaid n T) (hT : T ≤ T') : TextSaid n T' := fun e cs w h1 h2 h3 => (h e cs w h1 h2 h3).mono fun _ _ hs => hs.mono hT
theorem TT_le : ∀ n, n ≤ 10 → TT n ≤ 100000000000 := by decide
theorem rtext_any : ∀ n, n ≤ 10 → TextSaid n (TT n)
  | 0, _ => fun e cs w hh => by cases e; unfold Ex.height at hh; omega
  | n + 1, hn => by
    have h := rtext_any n (by omega)
    have hl := TT_le n (by omega)
    exact text_step (by omega) (h.mono (by omega)) (oper_step (by omega) h)
noncomputable def codeTt : Code := Tryz.f56.body.getD .skip
noncomputable def tQ0 : List Item := advG [.code codeTt]
noncomputable def tQ1 : List Item := advG (elseT tQ0)
theorem typeText_any (b : Bool) (m h d : Int) (w : World) (m0 : -1 ≤ m) (m1 : m ≤ 1) (h0 : -1 ≤ h) (h1 : h ≤ 1) (d0 : -1 ≤ d) (d1 : d ≤ 1) : Calls Tryz.prog 56 [.agg #[.bool b, .int .i64 m, .int .i64 h, .int .i64 d]].toArray w (Short 24 w) := by
  refine calls_at (args := [.agg #[.bool b, .int .i64 m, .int .i64 h, .int .i64 d]]) (fn := Tryz.f56) (c := codeTt) (n := 8) (by kernel_rfl) (by kernel_rfl) (by kernel_rfl) (by kernel_rfl) ?_
  refine at_run (cntG 90 [.code codeTt]) [.code codeTt] w.heap.size [] [(0, 0)] tQ0 [(1, pt w.heap.size 0), (4, .bool b)] (w.heap.size + 1) [⟨w.heap.size, 0, [.bool b, .int .i64 m, .int .i64 h, .int .i64 d], 87, true⟩] (lies_nil w) (by kernel_rfl) fun w1 E1 L K => ?_
  have B := below_kept K
  replace L := lies_sz (lies_any L)
  clear K
  refine at_cond b (by kernel_rfl) (fun _ => ?_) (fun _ => ?_)
  · refine at_end [] (.string ⟨#[98, 111, 111, 108]⟩) (fn := Tryz.f56) (by kernel_rfl) (lies_nil w1) (by kernel_rfl) fun w9 hK => ⟨⟨_, rfl, ?_⟩, B.trans ((below_kept hK).mono B.size)⟩
    decide
  · refine at_run (cntG 90 (elseT tQ0)) (elseT tQ0) w1.heap.size _ [(0, 1)] tQ1 [(6, .agg #[.int .i64 m, .int .i64 h, .int .i64 d])] w1.heap.size [⟨w.heap.size, 0, [.bool b, .int .i64 m, .int .i64 h, .int .i64 d], 87, true⟩] L (by kernel_rfl) fun w2 E2 L2 K => ?_
    have B2 : Below w.heap.size w w2 := ⟨K.os.trans B.os, K.tape.trans B.tape, K.output.trans B.output, Nat.le_trans B.size K.size, fun i hi => (K.block i (by have := B.size; omega) (by simp; omega)).trans (B.block i hi)⟩
    refine at_call 88 [.tmp 6] (some 7) [.agg #[.int .i64 m, .int .i64 h, .int .i64 d]] (by kernel_rfl) (by kernel_rfl) (by kernel_rfl) ((rfmtUnit_any m h d w2 m0 m1 h0 h1 d0 d1).mono ?_)
    rintro e w3 ⟨rfl, hB3⟩
    refine ⟨_, rfl, ?_⟩
    refine at_end [] (.string (unitText m h d)) (fn := Tryz.f56) (by kernel_rfl) (lies_nil w3) (by kernel_rfl) fun w9 hK => ⟨⟨_, rfl, unitText_size _ _ _⟩, ?_⟩
    have B3 := B2.trans (hB3.mono B2.size)
    exact B3.trans ((below_kept hK).mono B3.size)
end
end Go.Proofs.YtpdbkbadjgellaaGreatDoor

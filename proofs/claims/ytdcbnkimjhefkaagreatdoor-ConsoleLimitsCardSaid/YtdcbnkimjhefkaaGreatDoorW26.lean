/-
  paygen's Fact: its regions that draw their order; Fact.
  paygen's Fact: the agreement's branch; Fact.
  Appends from stop to stop; calls of the deck in any function; rows of commands that the call owns.
  paygen: a crash, a command.
  paygen: the commands with which a play begins, and those that follow.
  The console's text of a fact is the reference's.
  Which texts consist of lines none of which is the line end: the program's test and the reference's agree.
  The console's Format is the reference's, for every list of commands.
  A store into a cell at an open place; commands of which one field is changed; small.
  The console's example runs to true.
  copyCheck of strings.Builder over this program.
  String of strings.Builder over this program.
-/
import Derived.Test.YtdcbnkimjhefkaaGreatDoorW25
import Derived.Laws.Append
import Derived.OwnWalk
import Derived.Test.YtdcbnkimjhefkaaGreatDoorW17
import Derived.Test.YtdcbnkimjhefkaaGreatDoorProg
import Derived.Shelf.Strings.Builder1
import Derived.Lib.UnsafeStr
namespace Go.Proofs.YtdcbnkimjhefkaaGreatDoor
open Go.RowKit
set_option maxRecDepth 100000
structure E24 (b k3 : Nat) (T : List (Nat × Value)) (w w' : World) : Prop where
  size : w.heap.size ≤ w'.heap.size
  block : ∀ k, k < w.heap.size → k ≠ b → k ≠ k3 → w'.heap[k]? = w.heap[k]?
  cells : ∀ p ∈ T, w.cell? ⟨k3, p.1, none⟩ = some p.2 → w'.cell? ⟨k3, p.1, none⟩ = some p.2
theorem E24.refl (b k3 : Nat) (T : List (Nat × Value)) (w : World) : E24 b k3 T w w := ⟨Nat.le_refl _, fun _ _ _ _ => rfl, fun _ _ h => h⟩
theorem E24.trans {b k3 : Nat} {T : List (Nat × Value)} {u v w : World} (h : E24 b k3 T u v) (k : E24 b k3 T v w) : E24 b k3 T u w :=
  ⟨Nat.le_trans h.size k.size, fun i hi hb h3 => (k.block i (Nat.lt_of_lt_of_le hi h.size) hb h3).trans (h.block i hi hb h3), fun p hp hq => k.cells p hp (h.cells p hp hq)⟩
variable {b : Nat} {ns : List Int} {lim lim' : Nat} {w0 : World} {k2 k3 : Nat} {c c' : Cmd} {w w' : World} {R : Ending → World → Prop} {E : Nat → Value}
theorem FaS.cell (S : FaS b ns lim w0 k2 k3 c w) (j : Nat) : w.cell? ⟨k3, j, none⟩ = c.fact[j]? := by
  unfold World.cell?
  simp [S.h3]
theorem FaS.ran1 {O : List Nat} {B z : Nat} {x : Nat × Nat} {q : List (Nat × Nat)} (S : FaS b ns lim w0 k2 k3 c w) (hL : Lies O B w' ⟨z, [entF k3 c'], x, q⟩) (hK : Kept [k3] w.heap.size w w') : FaS b ns lim w0 k2 k3 c' w' := by
  have h1 := S.l2
  have h3 := S.l3
  have h4 := S.lb
  exact ⟨⟨S.dk.deck.kept (fun k hk => by simp at hk; omega) hK, S.dk.but.kept (fun k hk => by simp at hk; omega) hK⟩, (hK.block _ (heap_lt S.h2) (by simp; omega)).trans S.h2, own_good (hL.sat.good _ (List.mem_singleton.2 rfl)), h1, h3, h4⟩
def saysSl (k3 : Nat) (cs : List Value) (n : Nat) (vs : List Value) (w : World) : Prop := ∃ g, vs = [.slice (some ⟨g, 0, none⟩) n n] ∧ k3 < g ∧ g < w.heap.size ∧ w.rangeAt g 0 cs
def saysIx (k3 : Nat) (cs : List Value) (n : Nat) (vs : List Value) (w : World) : Prop := ∃ g i, i < n ∧ vs = [.pointer (some ⟨g, 0 + i * 1, none⟩)] ∧ k3 < g ∧ g < w.heap.size ∧ w.rangeAt g 0 cs
def saysEl (xs : List (List UInt8)) (vs : List Value) (_ : World) : Prop := ∃ x ∈ xs, vs = [.string ⟨⟨x⟩⟩]
def saysLt (n : Nat) (vs : List Value) (_ : World) : Prop := ∃ k : Nat, k < n ∧ vs = [.int .i64 k]
def saysIn (xs : List Int) (vs : List Value) (_ : World) : Prop := ∃ x ∈ xs, vs = [.int .i64 x]
abbrev strsM (l : List (List UInt8)) : List Value := l.map fun x => .string ⟨⟨x⟩⟩
abbrev intsM (l : List Int) : List Value := l.map (.int .i64)
theorem ent_one {w : World} {g i : Nat} {cs : List Value} {v : Value} (hg : g < w.heap.size) (h : w.rangeAt g 0 cs) (hv : cs[i]? = some v) : Ent.good w ⟨g, 0 + i * 1, [v], 0, false⟩ := by
  refine ⟨hg, fun j x hj => ?_⟩
  cases j with
  | zero => cases hj; have := h i v hv; simpa using this
  | succ j => cases hj
/-! region 24 -/
def C24 (b : Nat) (ns : List Int) (lim : Nat) (w0 : World) (k2 k3 : Nat) (e d : Int) (m : Nat) (w : World) : Prop := m ≤ 15 ∧ ∃ z : Int, FaS b ns (lim + (15 - m)) w0 k2 k3 (fc e z d [] 0 0 0 []) w
theorem C24.down {b : Nat} {ns : List Int} {lim : Nat} {w0 : World} {k2 k3 : Nat} {e d : Int} (m : Nat) (w : World) (h : C24 b ns lim w0 k2 k3 e d (m + 1) w) : C24 b ns lim w0 k2 k3 e d m w := by
  obtain ⟨h1, z, S⟩ := h
  exact ⟨by omega, z, S.more (by omega)⟩
/-! region 3 -/
def nm3 : List (List UInt8) := [[99, 108, 117, 98], [108, 111, 97, 110]]
def C3 (b : Nat) (ns : List Int) (lim : Nat) (w0 : World) (k2 k3 : Nat) (e d : Int) (m : Nat) (w : World) : Prop := m ≤ 15 ∧ ∃ z : Int, FaS b ns (lim + (15 - m)) w0 k2 k3 (fc e z d [] 0 0 0 []) w
theorem C3.down {b : Nat} {ns : List Int} {lim : Nat} {w0 : World} {k2 k3 : Nat} {e d : Int} (m : Nat) (w : World) (h : C3 b ns lim w0 k2 k3 e d (m + 1) w) : C3 b ns lim w0 k2 k3 e d m w := by
  obtain ⟨h1, z, S⟩ := h
  exact ⟨by omega, z, S.more (by omega)⟩
def L3 (b k3 : Nat) : List Loc :=
  [⟨0, [], [0], saysSl k3 (strsM nm3) 2⟩, pureL 1 [] (pb b), ⟨2, [1], [2], saysLt 2⟩, ⟨3, [0, 2], [3], saysIx k3 (strsM nm3) 2⟩, ⟨4, [3], [4], saysEl nm3⟩,
   pureL 5 [] (pb b), ⟨6, [], [6], saysSl k3 (intsM ([5000, 0, 100000] : List Int)) 3⟩, ⟨7, [2, 5, 6], [7], saysIn ([5000, 0, 100000] : List Int)⟩, pureL 8 [] (pb b), ⟨9, [], [9], saysSl k3 (intsM ([0, 7000] : List Int)) 2⟩, ⟨10, [2, 5, 6, 7, 8, 9], [10], saysIn ([0, 7000] : List Int)⟩,
   pureL 11 [] (pb b), ⟨12, [2, 5, 6, 7, 8, 9, 10, 11], [12], saysLt 3⟩, pureL 13 [] (.pointer (some ⟨k3, 1, none⟩)), ⟨14, [2, 5, 6, 7, 8, 9, 10, 11, 12, 13], [], fun _ w => w.cell? ⟨k3, 1, none⟩ = some (.int .i64 9)⟩]
end Go.Proofs.YtdcbnkimjhefkaaGreatDoor

namespace Go.Proofs.YtdcbnkimjhefkaaGreatDoor
open Go.RowKit
set_option maxRecDepth 100000
def C17 (b : Nat) (ns : List Int) (lim : Nat) (w0 : World) (k2 k3 : Nat) (d : Int) (m : Nat) (w : World) : Prop := m ≤ 9 ∧ ∃ y z : Int, FaS b ns (lim + (9 - m)) w0 k2 k3 (fc y z d [] 0 0 0 []) w
theorem C17.down {b : Nat} {ns : List Int} {lim : Nat} {w0 : World} {k2 k3 : Nat} {d : Int} (m : Nat) (w : World) (h : C17 b ns lim w0 k2 k3 d (m + 1) w) : C17 b ns lim w0 k2 k3 d m w := by
  obtain ⟨h1, y, z, S⟩ := h
  exact ⟨by omega, y, z, S.more (by omega)⟩
variable {b : Nat} {ns : List Int} {lim lim' : Nat} {w0 : World} {k2 k3 : Nat} {c c' : Cmd} {w w' : World} {R : Ending → World → Prop} {E : Nat → Value}
theorem FactPost.more {e : Ending} (h : FactPost b ns lim w0 e w) (hl : lim ≤ lim') : FactPost b ns lim' w0 e w := by
  obtain ⟨c, h1, h2, h3⟩ := h
  exact ⟨c, h1, h2, ⟨h3.deck.more hl, h3.but⟩⟩
theorem wp_monoQ {P : Program} {o : Oper} {a : Act} {w : World} {K K' : Act → World → Prop} {Q Q' : Exit → Act → World → Prop} (hK : ∀ a w, K a w → K' a w) (hQ : ∀ e a w, Q e a w → Q' e a w) (hh : o.wp P a w K Q) : o.wp P a w K' Q' := by
  have hO : LetsOut Q → LetsOut Q' := fun ⟨a, w, h⟩ => ⟨a, w, hQ _ _ _ h⟩
  unfold Oper.wp at *
  generalize (execOp a.eval o).run P w = r at *
  cases r with
  | ok n w' =>
    cases n <;> simp only [Oper.upon] at hh ⊢ <;>
      first
        | exact hK _ _ hh
        | exact Calls.mono hh (fun e w'' he => by cases e <;> first | exact hK _ _ he | exact hQ _ _ _ he | exact hO he)
        | exact Rows.mono hh (fun _ _ he => hK _ _ he)
  | halt x w' => cases x <;> simp only [Oper.upon] at hh ⊢ <;> first | exact hQ _ _ _ hh | exact hO hh | exact hh
theorem wpOps_monoQ {P : Program} {ops : Array Oper} {Q Q' : Exit → Act → World → Prop} (hQ : ∀ e a w, Q e a w → Q' e a w) : ∀ (l : List Nat) (a : Act) (w : World), wpOps P ops Q l a w → wpOps P ops Q' l a w
  | [], a, w, h => hQ _ _ _ h
  | i :: rest, a, w, h => by
    have ih := wpOps_monoQ (P := P) (ops := ops) hQ rest
    unfold wpOps at h ⊢
    split
    · rename_i ho
      simp only [ho] at h
      exact ih _ _ h
    · rename_i o ho
      simp only [ho] at h
      split
      · rename_i hw
        rw [if_pos hw] at h
        exact h.imp (wp_monoQ ih hQ) (fun ⟨h1, a, w, h2⟩ => ⟨h1, a, w, hQ _ _ _ h2⟩)
      · rename_i hw
        rw [if_neg hw] at h
        exact ih _ _ h
theorem Mid.post {P : Program} {f : FuncId} {R R' : Ending → World → Prop} {td : List Item} {a : Act} {w : World} (h : Mid P f R td a w) (hR : ∀ e w, R e w → R' e w) : Mid P f R' td a w := fun cs =>
  let ⟨e, u, fr, h1, h2⟩ := h cs
  ⟨e, u, fr, hR _ _ h1, h2⟩
theorem At.post {P : Program} {f : FuncId} {R R' : Ending → World → Prop} {td : List Item} {a : Act} {w : World} (h : At P f R td a w) (hR : ∀ e w, R e w → R' e w) : At P f R' td a w := by
  cases td with
  | nil => exact Mid.post h hR
  | cons x k =>
    cases x <;> first
      | exact wpOps_monoQ (fun _ _ _ ⟨h1, h2⟩ => ⟨h1, Mid.post h2 hR⟩) _ _ _ h
      | exact Mid.post h hR
end Go.Proofs.YtdcbnkimjhefkaaGreatDoor

namespace Go.Proofs.YtdcbnkimjhefkaaGreatDoor
open Go.RowKit
set_option maxRecDepth 100000
theorem wp_append {P : Program} {w : World} {o : Oper} {a : Act} {K : Act → World → Prop} {Q : Exit → Act → World → Prop} (s x : Operand) (t : TypeId)
    (ho : o.op = .call { callee := .builtin .append, args := #[s, x], argTypes := #[t, t] })
    (base : Nat) (e : TypeId) {z : Value} {size bytes : Nat} (ht : P.underlying t = some (.slice e)) (hinfo : (P.info? e).map (fun i => (i.zero, i.size, i.bytes)) = some (some z, size, bytes)) (hzs : z.cells.size = size) (hsz : 0 < size)
    (v : Value) (n : Nat) (xs : List Value) (hs : a.eval s = v) (hown : w.ownsRow base e size v n xs)
    (ad : Addr) (m c : Nat) (news : List Value) (hx : a.eval x = .slice (some ad) m c) (hl : news.length = m * size) (hnews : ∀ j u, news[j]? = some u → w.cell? (ad.add j) = some u) (h1 : ∀ u ∈ news, u.oneCell' = true)
    (h63 : n + m ≤ maxLen) (hbytes : (n + m) * bytes ≤ 140737488355328) (hbase : base ≤ w.heap.size)
    (h : ∀ v' w', w'.ownsRow base e size v' (n + m) (xs ++ news) → w.grownBy w' v.ownBlock → K (a.put o.dst v') w') : o.wp P a w K Q := by
  obtain ⟨i, hi, hz, hsize, hby⟩ := info_partsC hinfo
  obtain ⟨v', w', hr, h2, h3, h4⟩ := run_append_own (P := P) w base t o.type e i z size bytes ht hi hz hsize hby hzs hsz v n xs hown ad m c news hl hnews h1 h63 hbytes hbase
  unfold Oper.wp execOp
  simp only [ho, resolve, invoke, builtin, Sem.run_bind, Sem.run_pure, Result.andThen_ok, List.map_toArray, List.map_cons, List.map_nil, hs, hx, hr]
  exact h v' w' h2 h3
section
variable {P : Program} {f : FuncId} {R : Ending → World → Prop}
theorem at_append {n : Nat} {td : List Item} {E : Nat → Value} {w : World} (o : Oper) (hc : curOp n E td = some o) (s x : Operand) (t : TypeId)
    (ho : o.op = .call { callee := .builtin .append, args := #[s, x], argTypes := #[t, t] })
    (base : Nat) (e : TypeId) {z : Value} {size bytes : Nat} (ht : P.underlying t = some (.slice e)) (hinfo : (P.info? e).map (fun i => (i.zero, i.size, i.bytes)) = some (some z, size, bytes)) (hzs : z.cells.size = size) (hsz : 0 < size)
    (v : Value) (k : Nat) (xs : List Value) (hs : evE n E s = v) (hown : w.ownsRow base e size v k xs)
    (ad : Addr) (m c : Nat) (news : List Value) (hx : evE n E x = .slice (some ad) m c) (hl : news.length = m * size) (hnews : ∀ j u, news[j]? = some u → w.cell? (ad.add j) = some u) (h1 : ∀ u ∈ news, u.oneCell' = true)
    (h63 : k + m ≤ maxLen) (hbytes : (k + m) * bytes ≤ 140737488355328) (hbase : base ≤ w.heap.size)
    (h : ∀ v' w', w'.ownsRow base e size v' (k + m) (xs ++ news) → w.grownBy w' v.ownBlock → At P f R (popOp td) (Fr n (updO E o.dst v')) w') : At P f R td (Fr n E) w := by
  unfold curOp at hc
  split at hc
  · rename_i ops i r k'
    split at hc
    · rename_i o' ho'
      split at hc
      · rename_i hw
        obtain rfl := Option.some.inj hc
        refine wpOps_some ho' (by rw [yielded_Fr]; exact hw) ?_
        refine wp_append s x t ho base e ht hinfo hzs hsz v k xs (by rw [eval_Fr]; exact hs) hown ad m c news (by rw [eval_Fr]; exact hx) hl hnews h1 h63 hbytes hbase fun v' w' h2 h3 => ?_
        rw [Fr_put]
        exact h v' w' h2 h3
      · cases hc
    · cases hc
  · cases hc
variable {b : Nat} {ns : List Int} {lim : Nat} {w : World}
end
def opAt : List Item → Oper
  | .inRegion ops (i :: _) :: _ => ops.getD i default
  | _ => default
section
variable {f : FuncId} {R : Ending → World → Prop} {b : Nat} {ns : List Int} {lim : Nat} {w : World}
end
/-- A function's own result cell, and the deck. -/
structure ReS (b : Nat) (ns : List Int) (lim : Nat) (w0 : World) (k2 : Nat) (z : List Value) (ty : TypeId) (w : World) : Prop where
  dk : DK b ns lim w0 w
  h2 : w.heap[k2]? = some (.cells z.toArray ty (0, 0))
  l2 : w0.heap.size ≤ k2
  lb : b < w0.heap.size
theorem ReS.call {b : Nat} {ns : List Int} {lim lim' : Nat} {w0 w w' : World} {k2 : Nat} {z : List Value} {ty : TypeId} (h : ReS b ns lim w0 k2 z ty w) (D : DK b ns lim' w w') : ReS b ns lim' w0 k2 z ty w' := by
  have := h.l2
  have := h.lb
  exact ⟨h.dk.next D, (D.but.block _ (heap_lt h.h2) (by omega)).trans h.h2, h.l2, h.lb⟩
theorem ReS.below {b : Nat} {ns : List Int} {lim : Nat} {w0 w w' : World} {k2 : Nat} {z : List Value} {ty : TypeId} (h : ReS b ns lim w0 k2 z ty w) (hb : Below w.heap.size w w') : ReS b ns lim w0 k2 z ty w' := h.call ⟨h.dk.deck.below hb, .of_below hb⟩
/-- A row of commands of the call's own. -/
structure RowC (b : Nat) (ns : List Int) (lim : Nat) (w0 : World) (v : Value) (l : List Cmd) (w : World) : Prop where
  dk : DK b ns lim w0 w
  own : w.ownsRow w0.heap.size 64 13 v l.length (l.flatMap Cmd.cells)
  gen : ∀ c ∈ l, GenC c
  lb : b < w0.heap.size
theorem own_le {w : World} {base base' : Nat} {e : TypeId} {size : Nat} {v : Value} {n : Nat} {xs : List Value} (h : w.ownsRow base e size v n xs) (hb : base' ≤ base) : w.ownsRow base' e size v n xs := by
  refine ⟨h.1, ?_⟩
  rcases h.2 with h1 | ⟨g, cap, cur, rfl, hbg, hr⟩
  · exact .inl h1
  · exact .inr ⟨g, cap, cur, rfl, by omega, hr⟩
theorem own_block {w : World} {base : Nat} {e : TypeId} {size : Nat} {v : Value} {n : Nat} {xs : List Value} (h : w.ownsRow base e size v n xs) {g : Nat} (hg : v.ownBlock = some g) : base ≤ g ∧ g < w.heap.size := by
  rcases h.2 with ⟨rfl, _⟩ | ⟨g', cap, cur, rfl, hbg, hr⟩
  · simp [Value.ownBlock] at hg
  · simp [Value.ownBlock] at hg
    subst hg
    exact ⟨hbg, heap_lt hr.1⟩
theorem RowC.call {b : Nat} {ns : List Int} {lim lim' : Nat} {w0 w w' : World} {v : Value} {l : List Cmd} (h : RowC b ns lim w0 v l w) (D : DK b ns lim' w w') : RowC b ns lim' w0 v l w' := by
  have := h.lb
  refine ⟨h.dk.next D, owns_keep h.own fun g hg => ?_, h.gen, h.lb⟩
  have := own_block h.own hg
  exact D.but.block g this.2 (by omega)
theorem RowC.below {b : Nat} {ns : List Int} {lim : Nat} {w0 w w' : World} {v : Value} {l : List Cmd} (h : RowC b ns lim w0 v l w) (hb : Below w.heap.size w w') : RowC b ns lim w0 v l w' := h.call ⟨h.dk.deck.below hb, .of_below hb⟩
theorem RowC.more {b : Nat} {ns : List Int} {lim lim' : Nat} {w0 w : World} {v : Value} {l : List Cmd} (h : RowC b ns lim w0 v l w) (hl : lim ≤ lim') : RowC b ns lim' w0 v l w := ⟨⟨h.dk.deck.more hl, h.dk.but⟩, h.own, h.gen, h.lb⟩
theorem infoCmd : (Tryz.prog.info? 64).map (fun i => (i.zero, i.size, i.bytes)) = some (some (.agg #[.int .i64 0, .int .i64 0, .int .i64 0, .int .i64 0, .string ⟨#[]⟩, .int .i64 0, .int .i64 0, .int .i64 0, .string ⟨#[]⟩, .int .i64 0, .int .u64 0, .int .i64 0, .int .i64 0]), 13, 120) := by kernel_rfl
end Go.Proofs.YtdcbnkimjhefkaaGreatDoor

namespace Go.Proofs.YtdcbnkimjhefkaaGreatDoor
open Go.RowKit
set_option maxRecDepth 100000
def zeroC : List Value := [.int .i64 0, .int .i64 0, .int .i64 0, .int .i64 0, .string ⟨⟨[]⟩⟩, .int .i64 0, .int .i64 0, .int .i64 0, .string ⟨⟨[]⟩⟩, .int .i64 0, .int .u64 0, .int .i64 0, .int .i64 0]
def kc (k p : Int) : Cmd := ⟨k, 0, 0, 0, [], 0, 0, 0, [], p, 0, 0, 0⟩
variable {b : Nat} {ns : List Int} {lim : Nat} {w0 w : World}
def CmdPost (b : Nat) (ns : List Int) (lim : Nat) (w0 : World) (e : Ending) (w : World) : Prop := ∃ c, GenC c ∧ e = .returned (.agg ⟨c.cells⟩) ∧ DK b ns lim w0 w
theorem CmdPost.more {lim' : Nat} {e : Ending} (h : CmdPost b ns lim w0 e w) (hl : lim ≤ lim') : CmdPost b ns lim' w0 e w := by
  obtain ⟨c, h1, h2, h3⟩ := h
  exact ⟨c, h1, h2, ⟨h3.deck.more hl, h3.but⟩⟩
abbrev whs : List Int := [0, 1, 2, 3, 5, 7, 576460752303423488, 576460752303423487]
abbrev tns : List Int := [0, 31, 5, -1, 40]
abbrev sts : List Int := [0, 1, 1, 2, 3, 4, 9, -1]
end Go.Proofs.YtdcbnkimjhefkaaGreatDoor

namespace Go.Proofs.YtdcbnkimjhefkaaGreatDoor
open Go.RowKit
set_option maxRecDepth 100000
variable {b : Nat} {ns : List Int} {lim : Nat} {w0 w : World}
end Go.Proofs.YtdcbnkimjhefkaaGreatDoor

namespace Go.Proofs.YtdcbnkimjhefkaaGreatDoor
end Go.Proofs.YtdcbnkimjhefkaaGreatDoor

namespace Go.Proofs.YtdcbnkimjhefkaaGreatDoor
theorem suf_cons (c : UInt8) (r : List UInt8) (h : r ≠ []) : Lib.hasSuffix (c :: r) [10] = Lib.hasSuffix r [10] := by
  unfold Lib.hasSuffix
  rw [Bool.eq_iff_iff, List.isSuffixOf_iff_suffix, List.isSuffixOf_iff_suffix, List.suffix_cons_iff]
  constructor
  · rintro (h1 | h1)
    · cases r with
      | nil => exact absurd rfl h
      | cons => simp at h1
    · exact h1
  · exact Or.inr
theorem con_cons (c : UInt8) (r p : List UInt8) : Lib.contains (c :: r) p = (p.isPrefixOf (c :: r) || Lib.contains r p) := by
  unfold Lib.contains
  have hg := Lib.index_ge r p
  rw [Lib.index]
  by_cases h : p.isPrefixOf (c :: r) = true
  · simp [h]
  · rw [if_neg h]
    simp only [Bool.not_eq_true] at h
    rw [h, Bool.false_or]
    by_cases h1 : Lib.index r p = -1
    · simp [h1]
    · have : ¬ ((Lib.index r p == -1) = true) := by simpa using h1
      rw [if_neg this]
      have h2 : 0 ≤ Lib.index r p := by omega
      have h3 : 0 ≤ Lib.index r p + 1 := by omega
      simp [h2, h3]
theorem split_none : ∀ r : List UInt8, (splitL 10 r).1 = [] → (splitL 10 r).2 = r
  | [], _ => rfl
  | c :: r, h => by
    by_cases hc : c = 10
    · simp [splitL, hc] at h
    · simp only [splitL, hc, if_false] at h ⊢
      cases h1 : (splitL 10 r).1 with
      | nil => simp [split_none r h1]
      | cons => simp [h1] at h
theorem head_end : ∀ s : List UInt8, Lib.hasPrefix s (endW ++ [10]) = decide ((splitL 10 s).1.head? = some endW) := by
  have key : ∀ (p s : List UInt8), (∀ x ∈ p, x ≠ 10) → (p ++ [10]).isPrefixOf s = decide ((splitL 10 s).1.head? = some p) := by
    intro p
    induction p with
    | nil =>
      intro s _
      cases s with
      | nil => rfl
      | cons c r =>
        by_cases hc : c = 10
        · simp [splitL, hc]
        · have hc' : ((10 : UInt8) == c) = false := by simpa using fun e => hc e.symm
          simp only [splitL, hc, if_false, List.nil_append, List.isPrefixOf, hc', Bool.false_and]
          cases h1 : (splitL 10 r).1 <;> simp
    | cons a p ih =>
      intro s hp
      have ha : a ≠ 10 := hp a (by simp)
      have hp' : ∀ x ∈ p, x ≠ 10 := fun x hx => hp x (by simp [hx])
      cases s with
      | nil => rfl
      | cons c r =>
        simp only [List.cons_append, List.isPrefixOf]
        rw [ih r hp']
        by_cases hc : c = 10
        · subst hc
          have : (a == (10 : UInt8)) = false := by simpa using ha
          simp [splitL, this]
        · simp only [splitL, hc, if_false]
          by_cases hac : a = c
          · subst hac
            cases h1 : (splitL 10 r).1 <;> simp
          · have : (a == c) = false := by simpa using hac
            rw [this]
            have hca : ¬ c = a := fun e => hac e.symm
            cases h1 : (splitL 10 r).1 <;> simp [hca]
  intro s
  exact key endW s (by decide)
theorem con_end (c : UInt8) (r : List UInt8) : Lib.contains (c :: r) (10 :: (endW ++ [10])) = ((decide (c = 10) && Lib.hasPrefix r (endW ++ [10])) || Lib.contains r (10 :: (endW ++ [10]))) := by
  rw [con_cons]
  congr 1
  simp only [List.isPrefixOf, Lib.hasPrefix]
  congr 1
  by_cases h : c = 10
  · simp [h]
  · have : ((10 : UInt8) == c) = false := by simpa using fun e => h e.symm
    simp [h, this]
theorem tail_lines : ∀ s : List UInt8, ((s.isEmpty || Lib.hasSuffix s [10]) && !(Lib.contains s (10 :: (endW ++ [10])))) = ((splitL 10 s).2.isEmpty && (splitL 10 s).1.tail.all (fun l => decide (l ≠ endW)))
  | [] => rfl
  | c :: r => by
    have ih := tail_lines r
    have hh := head_end r
    rw [con_end]
    by_cases hc : c = 10
    · subst hc
      have hs : (((10 : UInt8) :: r).isEmpty || Lib.hasSuffix (10 :: r) [10]) = (r.isEmpty || Lib.hasSuffix r [10]) := by
        cases r with
        | nil => rfl
        | cons a b => rw [suf_cons _ _ (by simp)]; rfl
      rw [hs]
      simp only [splitL, if_true, List.tail_cons, decide_true, Bool.true_and]
      rw [hh]
      cases h1 : (splitL 10 r).1 with
      | nil =>
        rw [h1] at ih
        simp only [List.head?_nil, List.tail_nil, List.all_nil] at ih ⊢
        simpa using ih
      | cons l ls =>
        rw [h1] at ih
        simp only [List.head?_cons, List.tail_cons, List.all_cons] at ih ⊢
        by_cases hl : l = endW
        · simp [hl]
        · simp [hl]
          simpa using ih
    · simp only [splitL, hc, if_false, decide_false, Bool.false_and, Bool.false_or]
      cases r with
      | nil =>
        have h0 : Lib.hasSuffix [c] [10] = false := by
          have : ((10 : UInt8) == c) = false := by simpa using fun e => hc e.symm
          simp only [Lib.hasSuffix]
          rw [Bool.eq_false_iff]
          intro h
          rw [List.isSuffixOf_iff_suffix, List.suffix_cons_iff] at h
          rcases h with h | h
          · simp at h; exact hc h.symm
          · simp at h
        simp [splitL, h0]
      | cons a b =>
        rw [suf_cons _ _ (by simp)]
        have h0 : ((a :: b).isEmpty || Lib.hasSuffix (a :: b) [10]) = Lib.hasSuffix (a :: b) [10] := by simp
        rw [h0] at ih
        have h1 : ((c :: a :: b).isEmpty || Lib.hasSuffix (a :: b) [10]) = Lib.hasSuffix (a :: b) [10] := by simp
        rw [h1, ih]
        cases h2 : (splitL 10 (a :: b)).1 with
        | nil =>
          have := split_none _ h2
          rw [this]
          simp
        | cons l ls => simp
theorem linedP_lines (s : List UInt8) : linedP s = ((splitL 10 s).2.isEmpty && (splitL 10 s).1.all (fun l => decide (l ≠ endW))) := by
  have ht := tail_lines s
  have hh := head_end s
  have e1 : ([101, 110, 100, 10] : List UInt8) = endW ++ [10] := rfl
  unfold linedP
  rw [e1, hh]
  cases s with
  | nil => rfl
  | cons c r =>
    have h0 : (c :: r).isEmpty = false := rfl
    rw [h0] at ht ⊢
    simp only [Bool.false_or] at ht ⊢
    generalize Lib.hasSuffix (c :: r) [10] = b1 at *
    generalize Lib.contains (c :: r) (10 :: (endW ++ [10])) = b2 at *
    cases h1 : (splitL 10 (c :: r)).1 with
    | nil =>
      rw [h1] at ht
      simp at ht ⊢
      exact ht
    | cons l ls =>
      rw [h1] at ht
      simp only [List.head?_cons, List.tail_cons, List.all_cons] at ht ⊢
      by_cases hl : l = endW
      · simp [hl]
      · simp [hl]
        simpa using ht
end Go.Proofs.YtdcbnkimjhefkaaGreatDoor

namespace Go.Proofs.YtdcbnkimjhefkaaGreatDoor
set_option maxRecDepth 100000
end Go.Proofs.YtdcbnkimjhefkaaGreatDoor

namespace Go.Proofs.YtdcbnkimjhefkaaGreatDoor
open Go.RowKit
set_option maxRecDepth 100000
section
variable {P : Program} {f : FuncId} {R : Ending → World → Prop}
end
theorem cell_setCell {w : World} {g i j : Nat} {v : Value} : (w.setCell ⟨g, i, none⟩ v).cell? ⟨g, j, none⟩ = if i = j then (w.cell? ⟨g, j, none⟩).map fun _ => v else w.cell? ⟨g, j, none⟩ := by
  unfold World.setCell World.cell?
  simp only [Array.getElem?_modify]
  simp only [if_true]
  cases h : w.heap[g]? with
  | none => simp
  | some o =>
    cases o with
    | cells C T fr =>
      simp only [Option.map_some]
      by_cases hij : i = j
      · subst hij
        simp [Array.getElem?_setIfInBounds]
        by_cases hlt : i < C.size
        · simp [hlt]
        · simp [hlt]
      · simp [hij]
    | _ => simp
/-- One field of one command, changed. -/
theorem cmds_set {w : World} {lim g off : Nat} {v : Value} {l : List Cmd} {a : Option Addr} {cap k m : Nat} {c' : Cmd} (hv : v = .slice a l.length cap) (ha : a = some ⟨g, off, none⟩) (hg : g < lim) (hc : ∀ (i : Nat) (h : i < l.length), w.rangeAt g (off + i * 13) (l[i]).cells)
    (hk : k < l.length) (hm : m < 13) {x : Value} (hx : c'.cells = (l[k]).cells.set m x) : CmdsAt (w.setCell ⟨g, off + k * 13 + m, none⟩ x) lim v (l.set k c') := by
  subst hv ha
  refine ⟨_, cap, by rw [List.length_set], fun _ => ⟨g, off, rfl, hg, fun i hi j u hu => ?_⟩⟩
  rw [List.length_set] at hi
  have hl : ∀ c : Cmd, c.cells.length = 13 := fun _ => rfl
  rw [cell_setCell]
  by_cases hik : k = i
  · subst hik
    rw [List.getElem_set_self, hx] at hu
    have hj : j < 13 := by
      have := (List.getElem?_eq_some_iff.1 hu).1
      rw [List.length_set, hl] at this
      exact this
    by_cases hjm : m = j
    · subst hjm
      rw [if_pos rfl]
      rw [List.getElem?_set_self (by rw [hl]; exact hm)] at hu
      obtain rfl := Option.some.inj hu
      have := hc k hk m _ (List.getElem?_eq_getElem (by rw [hl]; exact hm))
      rw [this]
      rfl
    · rw [if_neg (by omega)]
      rw [List.getElem?_set_ne hjm] at hu
      exact hc k hk j u hu
  · rw [List.getElem_set_ne hik] at hu
    have hj : j < 13 := by
      have := (List.getElem?_eq_some_iff.1 hu).1
      rw [hl] at this
      exact this
    rw [if_neg (by omega)]
    exact hc i hi j u hu
end Go.Proofs.YtdcbnkimjhefkaaGreatDoor

namespace Go.Proofs.YtdcbnkimjhefkaaGreatDoor
set_option maxRecDepth 100000 in
theorem awake_run : (evalK Tryz.prog orcC (drawK Tryz.prog orcC) 60 12 [] H0).map (·.1) = some (.bool true) := by kernel_rfl
end Go.Proofs.YtdcbnkimjhefkaaGreatDoor

namespace Go.Proofs
open Go.Shelf
def Tryz.cc_ren : Go.Shelf.Ren := ⟨fun | 240 => 68 | 276 => 115 | n => n, fun | 0 => 0 | 3 => 3 | 4 => 4 | 5 => 5 | 9 => 9 | 20 => 20 | 37 => 68 | 70 => 87 | 72 => 89 | 164 => 196 | n => n, fun | n => n⟩
theorem Tryz.cc240 : Go.Proofs.Lays.n240 Tryz.prog Tryz.cc_ren := {
  mixed := by kernel_rfl
  f240 := Tryz.func68.trans (congrArg some (by kernel_rfl))
  f276 := Tryz.func115.trans (congrArg some (by kernel_rfl))
  t0 := Tryz.underlying0
  a0 := Tryz.isAgg0
  z0 := Tryz.sizeOf0
  v0 := Tryz.zeroValue0
  t4 := Tryz.underlying4
  a4 := Tryz.isAgg4
  z4 := Tryz.sizeOf4
  v4 := Tryz.zeroValue4
  t9 := Tryz.underlying9
  a9 := Tryz.isAgg9
  z9 := Tryz.sizeOf9
  v9 := Tryz.zeroValue9
  t20 := Tryz.underlying20
  a20 := Tryz.isAgg20
  z20 := Tryz.sizeOf20
  v20 := Tryz.zeroValue20
  t70 := Tryz.underlying87
  a70 := Tryz.isAgg87
  z70 := Tryz.sizeOf87
  v70 := Tryz.zeroValue87
  t72 := Tryz.underlying89
  a72 := Tryz.isAgg89
  z72 := Tryz.sizeOf89
  v72 := Tryz.zeroValue89
  t164 := Tryz.underlying196
  a164 := Tryz.isAgg196
  z164 := Tryz.sizeOf196
  v164 := Tryz.zeroValue196 }
theorem Tryz.ccX : Builder.X72 Tryz.prog Tryz.cc_ren := {
  sizeBuilder := by kernel_rfl
  liesBuilder := by kernel_rfl }
open Go.RowKit in
theorem Tryz.copyCheck_used (b : Nat) (w : World) (h : w.cell? ⟨b, 0, none⟩ = some (.pointer (some ⟨b, 0, none⟩))) : Calls Tryz.prog 68 #[.pointer (some ⟨b, 0, none⟩)] w fun e w' => e = .returned (.tuple #[]) ∧ w' = w := Any.Builder_copyCheck_used Tryz.cc240 Tryz.ccX b w h
open Go.RowKit in
theorem Tryz.copyCheck_fresh (b : Nat) (w : World) (h0 : w.cell? ⟨b, 0, none⟩ = some (.pointer none)) (hsh : w.shape? b = some (89, 2)) (hfz : w.frozen? ⟨b, 0, none⟩ = false) : Calls Tryz.prog 68 #[.pointer (some ⟨b, 0, none⟩)] w fun e w' => e = .returned (.tuple #[]) ∧ w' = w.setCell ⟨b, 0, none⟩ (.pointer (some ⟨b, 0, none⟩)) := Any.Builder_copyCheck_fresh Tryz.cc240 Tryz.ccX b w h0 hsh hfz
end Go.Proofs

namespace Go.Proofs
open Go.Shelf Go.RowKit
set_option maxHeartbeats 1000000 in
set_option maxRecDepth 100000 in
theorem Tryz.bstring_any (b g m : Nat) (l : List UInt8) (w : World) (hc : w.cell? ⟨b, 1, none⟩ = some (.slice (some ⟨g, 0, none⟩) l.length m)) (h0 : l ≠ []) (hm : l.length ≤ m) (hb : ∀ (j : Nat) x, l[j]? = some x → w.cell? ⟨g, j, none⟩ = some (.int .u8 (x.toNat : Int))) (hs : ∃ sz, w.shape? g = some (5, sz) ∧ l.length ≤ sz) (h63 : l.length ≤ 9223372036854775807) :
    Calls Tryz.prog 38 #[.pointer (some ⟨b, 0, none⟩)] w fun e w' => e = .returned (.string ⟨⟨l⟩⟩) ∧ w' = w.drew.freeze ⟨g, 0, none⟩ l.length := by
  have mixed : Tryz.prog.follows .mixedOrders = true := by kernel_rfl
  have hl0 : l.length ≠ 0 := by simpa using h0
  obtain ⟨sz, hs1, hs2⟩ := hs
  have c1 : w.drew.cell? ⟨b, 1, none⟩ = some (.slice (some ⟨g, 0, none⟩) l.length m) := hc
  have hSD : (Builtin.unsafeSliceData_ #[68] 128 #[.slice (some ⟨g, 0, none⟩) l.length m]).run Tryz.prog w.drew = .ok (.pointer (some ⟨g, 0, none⟩)) w.drew :=
    Lib.run_unsafeSliceData_row _ _ _ _ _ _ (by omega)
  have hUS : (Builtin.unsafeString_ #[128, 3] 9 #[.pointer (some ⟨g, 0, none⟩), .int .i64 l.length]).run Tryz.prog w.drew = .ok (.string ⟨l.toArray⟩) (w.drew.freeze ⟨g, 0, none⟩ l.length) := by
    refine Lib.run_unsafeString_row w.drew 128 3 9 5 Tryz.underlying128 (by kernel_rfl) g sz hs1 l h0 hs2 h63 ?_
    intro j x hx
    have := hb j x hx
    cases j with
    | zero => exact this
    | succ j => show w.cell? ⟨g, 0 + (j + 1), none⟩ = _; rw [Nat.zero_add]; exact this
  go_enter Tryz.func38, Tryz.ntmps38
  go_wp2
  go_region_o
  all_goals (go_wp2; go_ret; exact ⟨rfl, rfl⟩)
end Go.Proofs

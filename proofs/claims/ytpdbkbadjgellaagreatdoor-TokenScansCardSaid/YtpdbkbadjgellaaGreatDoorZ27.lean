/-
  payrollgen's Expr: its contract.
  payrollgen's Agreement: what holds from stop to stop.
-/
import Derived.Test.YtpdbkbadjgellaaGreatDoorZ24
import Derived.Test.YtpdbkbadjgellaaGreatDoorZ26
import Derived.Test.YtpdbkbadjgellaaGreatDoorZ18
import Derived.Test.YtpdbkbadjgellaaGreatDoorZ22
namespace Go.Proofs.YtpdbkbadjgellaaGreatDoor

theorem expr_step (b : Nat) (ns : List Int) (n : Nat) (IH : 1 ≤ n → ExprSaid b ns n) : ExprSaid b ns (n + 1) := by
  intro tb tm th td h rules w hT ht hh hhm hh0 hr0 hr1
  cases tb with
  | true => exact expr_true b ns n IH true rfl tm th td h rules w hT ht hh hhm hh0 hr0 hr1
  | false => exact expr_false b ns n IH false rfl tm th td h rules w hT ht hh hhm hh0 hr0 hr1
/-- Expr, whatever its height. -/
theorem expr_any (b : Nat) (ns : List Int) : ∀ n : Nat, ExprSaid b ns (n + 1)
  | 0 => expr_step b ns 0 (fun h => absurd h (by omega))
  | n + 1 => expr_step b ns (n + 1) (fun _ => expr_any b ns n)
end Go.Proofs.YtpdbkbadjgellaaGreatDoor

namespace Go.Proofs.YtpdbkbadjgellaaGreatDoor
open Go.RowKit

/-- A made definition. -/
def okDef (H : Nat) (d : Df) : Prop :=
  1 ≤ d.kind ∧ d.kind ≤ 5 ∧ d.name.length ≤ 5 ∧ -1 ≤ d.tm ∧ d.tm ≤ 1 ∧ -1 ≤ d.th ∧ d.th ≤ 1 ∧ -1 ≤ d.td ∧ d.td ≤ 1 ∧ 0 ≤ d.frm ∧ d.frm ≤ 30000 ∧ (∀ e ∈ d.ents, okEnt e) ∧ d.ents.length ≤ 3 ∧
    (d.body = exNone ∨ GenEx H d.body) ∧ ((d.kind = 3 ∨ d.kind = 4) → GenEx H d.body) ∧ 0 ≤ d.mode ∧ d.mode ≤ 6 ∧ 0 ≤ d.num ∧ d.num ≤ 100 ∧ 0 ≤ d.den ∧ d.den ≤ 100
def metal : Value := .string ⟨#[109, 101, 116, 97, 108]⟩
def memA (w : World) (r : List Value) (v : Value) (X : List Ent) : List Ent := ⟨w.heap.size, 0, r, 54, true⟩ :: ⟨w.heap.size + 1, 0, [metal, v], 54, true⟩ :: X
/-- The blocks that trees may lie in. -/
def SA (w : World) (v : Value) (X : List Ent) (h : Nat) : Prop := w.heap.size + 2 ≤ h ∧ v.ownBlock ≠ some h ∧ ∀ e ∈ X, e.id ≠ h
structure Ag (b : Nat) (ns : List Int) (H : Nat) (w : World) (r : List Value) (c v : Value) (X : List Ent) (rs : List (List Value)) (wx : World) : Prop where
  ph : Ph b ns w (memA w r c X) wx
  own : wx.ownsRow (w.heap.size + 2) 93 21 v rs.length rs.flatten
  ok : RowsOk (okDef H) (SA w v X) wx rs
  new : ∀ e ∈ X, w.heap.size + 2 ≤ e.id
  off : ∀ e ∈ X, v.ownBlock ≠ some e.id
def agZero : List Value := [.string ⟨#[]⟩, .slice none 0 0]
section
variable {b : Nat} {ns : List Int} {H : Nat} {w : World} {r : List Value} {c c' v : Value} {X : List Ent} {rs : List (List Value)} {wx wy : World}
theorem idsA (h : ∀ e ∈ X, w.heap.size + 2 ≤ e.id) : ∀ e ∈ memA w r c X, w.heap.size ≤ e.id := by
  intro e he
  unfold memA at he
  rcases List.mem_cons.1 he with rfl | he
  · exact Nat.le_refl _
  · rcases List.mem_cons.1 he with rfl | he
    · simp
    · have := h e he; omega
theorem notA {g : Nat} (h1 : w.heap.size + 2 ≤ g) (h2 : ∀ e ∈ X, e.id ≠ g) : g ∉ (memA w r c X).map (·.id) := by
  intro hm
  obtain ⟨e, he, hg⟩ := List.mem_map.1 hm
  unfold memA at he
  rcases List.mem_cons.1 he with rfl | he
  · simp only at hg; omega
  · rcases List.mem_cons.1 he with rfl | he
    · simp only at hg; omega
    · exact h2 e he hg
/-- Behind a run that may have made new blocks. -/
theorem Ag.run {r' : List Value} {X' : List Ent} {z : Nat} {O : List Nat} {B : Nat} {x : Nat × Nat} {q : List (Nat × Nat)} (h : Ag b ns H w r c v X rs wx) (hk : Kept ((memA w r c X).map (·.id)) wx.heap.size wx wy) (hL : Lies O B wy ⟨z, memA w r' c' X', x, q⟩)
    (hX : ∀ e ∈ X', (∃ e' ∈ X, e'.id = e.id) ∨ wx.heap.size ≤ e.id) : Ag b ns H w r' c' v X' rs wy := by
  have hz := h.ph.but.size
  have hsz : w.heap.size + 2 ≤ wx.heap.size := by
    have := (h.ph.lies.sat.good ⟨w.heap.size + 1, 0, [metal, c], 54, true⟩ (by simp [memA])).1
    simp only at this
    omega
  have hnew : ∀ e ∈ X', w.heap.size + 2 ≤ e.id := fun e he => by
    rcases hX e he with ⟨e', h1, h2⟩ | h1
    · rw [← h2]; exact h.new e' h1
    · omega
  have hg : ∀ g, v.ownBlock = some g → w.heap.size + 2 ≤ g ∧ g < wx.heap.size := fun g hg => h.own.lt g hg
  refine ⟨h.ph.run hk hL (idsA hnew), owns_keep h.own (fun g hgg => hk.block g (hg g hgg).2 (notA (hg g hgg).1 (fun e he he' => h.off e he (by rw [he']; exact hgg)))), h.ok.keep hk.size (fun g hS hlt => ⟨⟨hS.1, hS.2.1, fun e he he' => ?_⟩, hk.block g hlt (notA hS.1 hS.2.2)⟩), hnew, fun e he he' => ?_⟩
  · rcases hX e he with ⟨e', h1, h2⟩ | h1
    · exact hS.2.2 e' h1 (h2.trans he')
    · omega
  · rcases hX e he with ⟨e', h1, h2⟩ | h1
    · exact h.off e' h1 (by rw [h2]; exact he')
    · have := (hg _ he').2; omega
theorem Ag.call (h : Ag b ns H w r c v X rs wx) (hT : TapeOk b ns wy) (hb : But b wx wy) : Ag b ns H w r c v X rs wy := by
  have hlt := h.ph.lt
  refine ⟨h.ph.call hT hb, owns_keep h.own (fun g hg => ?_), h.ok.keep hb.size (fun g hS hl => ⟨hS, hb.block g hl (by have := hS.1; omega)⟩), h.new, h.off⟩
  have := h.own.lt g hg
  exact hb.block g this.2 (by omega)
theorem Ag.below (h : Ag b ns H w r c v X rs wx) (hb : Below wx.heap.size wx wy) : Ag b ns H w r c v X rs wy := h.call (h.ph.tape.below hb) (.of_below hb)
/-- What is made from here on lies in the trees' blocks. -/
theorem Ag.fresh (h : Ag b ns H w r c v X rs wx) {g : Nat} (hg : wx.heap.size ≤ g) : SA w v X g := by
  have hsz : w.heap.size + 2 ≤ wx.heap.size := by
    have := (h.ph.lies.sat.good ⟨w.heap.size + 1, 0, [metal, c], 54, true⟩ (by simp [memA])).1
    simp only at this
    omega
  refine ⟨by omega, fun e => ?_, fun e he he' => ?_⟩
  · have := (h.own.lt g e).2; omega
  · have := (h.ph.lies.sat.good e (by simp [memA, he])).1
    omega
theorem SA.keep {g : Nat} {u u' : World} (hlt : b < w.heap.size) (he : But b u u') (hS : SA w v X g) (hl : g < u.heap.size) : SA w v X g ∧ u'.heap[g]? = u.heap[g]? := ⟨hS, he.block g hl (by have := hS.1; omega)⟩
/-- An append of further rows. -/
theorem Ag.append {v' : Value} {qs : List (List Value)} (h : Ag b ns H w r c v X rs wx) (hq : RowsOk (okDef H) (SA w v X) wx qs) (ho : wy.ownsRow (w.heap.size + 2) 93 21 v' (rs.length + qs.length) (rs.flatten ++ qs.flatten)) (hg : wx.grownBy wy v.ownBlock) (hne : ∀ g, v'.ownBlock = some g → v.ownBlock = some g ∨ wx.heap.size ≤ g) :
    Ag b ns H w r c v' X (rs ++ qs) wy := by
  refine ⟨h.ph.grown hg (fun g hgg => ?_), by rw [List.length_append, List.flatten_append]; exact ho, ?_, h.new, fun e he he' => ?_⟩
  · have h1 := h.own.lt g hgg
    refine ⟨by omega, fun e he he' => ?_⟩
    have := notA (w := w) (r := r) (c := c) (X := X) h1.1 (fun e he he' => h.off e he (by rw [he']; exact hgg))
    exact this (List.mem_map.2 ⟨e, he, he'⟩)
  · refine (h.ok.append hq).keep hg.size (fun g hS hl => ⟨⟨hS.1, fun e => ?_, hS.2.2⟩, hg.block g hl (fun e => hS.2.1 e.symm)⟩)
    rcases hne g e with h1 | h1
    · exact hS.2.1 h1
    · omega
  · rcases hne _ he' with h1 | h1
    · exact h.off e he h1
    · have := (h.ph.lies.sat.good e (by simp [memA, he])).1
      omega
end
end Go.Proofs.YtpdbkbadjgellaaGreatDoor

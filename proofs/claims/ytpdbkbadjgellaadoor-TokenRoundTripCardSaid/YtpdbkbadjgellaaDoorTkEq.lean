/-
  Two tokens held against each other.
-/
import Derived.Test.YtpdbkbadjgellaaDoorTkE
namespace Go.Proofs.YtpdbkbadjgellaaDoor
open Go.RowKit

/-- Are two tokens the same? -/
def tokEq (t u : Tk.Tok) : Bool := t.kind == u.kind && (t.text == u.text && ((t.num == u.num && t.den == u.den) && (t.day == u.day && t.place == u.place)))
theorem tokEq_iff (t u : Tk.Tok) : tokEq t u = true ↔ t = u := by
  obtain ⟨k, x, n, d, y, p⟩ := t
  obtain ⟨k', x', n', d', y', p'⟩ := u
  simp [tokEq, and_assoc]

set_option maxRecDepth 100000 in
theorem run_eql_tok (w : World) (k n d y p k' n' d' y' p' : Int) (x x' : List UInt8) :
    (binOp .eql 39 (.agg #[.int .i64 k, .string ⟨x.toArray⟩, .int .i64 n, .int .i64 d, .int .i64 y, .int .i64 p]) (.agg #[.int .i64 k', .string ⟨x'.toArray⟩, .int .i64 n', .int .i64 d', .int .i64 y', .int .i64 p'])).run Tryd.prog w =
      .ok (.bool (k == k' && (x == x' && ((n == n' && d == d') && (y == y' && p == p'))))) w := by
  simp [go_sem]
  repeat' split
  all_goals simp_all

set_option maxRecDepth 100000 in
theorem run_neq_tok (w : World) (k n d y p k' n' d' y' p' : Int) (x x' : List UInt8) :
    (binOp .neq 39 (.agg #[.int .i64 k, .string ⟨x.toArray⟩, .int .i64 n, .int .i64 d, .int .i64 y, .int .i64 p]) (.agg #[.int .i64 k', .string ⟨x'.toArray⟩, .int .i64 n', .int .i64 d', .int .i64 y', .int .i64 p'])).run Tryd.prog w =
      .ok (.bool (!(k == k' && (x == x' && ((n == n' && d == d') && (y == y' && p == p')))))) w := by
  simp [go_sem]
  repeat' split
  all_goals simp_all
end Go.Proofs.YtpdbkbadjgellaaDoor

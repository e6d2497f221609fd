/-
  wire: vectors compared.
-/
import Derived.Test.YtdebldpmloignaaDoorWirK
import Derived.Laws.StructEq
namespace Go.Proofs.YtdebldpmloignaaDoor
open Go.RowKit
set_option linter.unusedVariables false
theorem vecGuard : Tryd.prog.eqGuardType Tryd.prog.depth 43 = false := by kernel_rfl
theorem vec_eqd (d : Nat) (a b c e a' b' c' e' : Int) (w : World) (q : ∀ (x y : Int), (Op.equalIn d 3 (.int .i64 x) (.int .i64 y)).run Tryd.prog w = .ok (x == y) w) : (Op.equalIn (d + 1) 43 (.agg #[.int .i64 a, .int .i64 b, .int .i64 c, .int .i64 e]) (.agg #[.int .i64 a', .int .i64 b', .int .i64 c', .int .i64 e'])).run Tryd.prog w = .ok (a == a' && (b == b' && (c == c' && e == e'))) w := by
  have hs : (sizeOf 3).run Tryd.prog w = .ok 1 w := by kernel_rfl
  have p0 := fun (x y z u : Int) => show (part 3 #[.int .i64 x, .int .i64 y, .int .i64 z, .int .i64 u] 0).run Tryd.prog w = .ok (.int .i64 x) w by kernel_rfl
  have p1 := fun (x y z u : Int) => show (part 3 #[.int .i64 x, .int .i64 y, .int .i64 z, .int .i64 u] 1).run Tryd.prog w = .ok (.int .i64 y) w by kernel_rfl
  have p2 := fun (x y z u : Int) => show (part 3 #[.int .i64 x, .int .i64 y, .int .i64 z, .int .i64 u] 2).run Tryd.prog w = .ok (.int .i64 z) w by kernel_rfl
  have p3 := fun (x y z u : Int) => show (part 3 #[.int .i64 x, .int .i64 y, .int .i64 z, .int .i64 u] 3).run Tryd.prog w = .ok (.int .i64 u) w by kernel_rfl
  simp only [Op.equalIn, Sem.run_bind, run_underlying Tryd.underlying43, Result.andThen_ok, hs]
  simp [Std.Legacy.Range.forIn_eq_forIn_range', Std.Legacy.Range.size, List.range', Sem.run_bind, p0, p1, p2, p3, q]
  by_cases h1 : a = a' <;> by_cases h2 : b = b' <;> by_cases h3 : c = c' <;> by_cases h4 : e = e' <;> simp [h1, h2, h3, h4]
theorem vec_eq (a b c e a' b' c' e' : Int) (w : World) : (Op.equalIn 10000 43 (.agg #[.int .i64 a, .int .i64 b, .int .i64 c, .int .i64 e]) (.agg #[.int .i64 a', .int .i64 b', .int .i64 c', .int .i64 e'])).run Tryd.prog w = .ok (a == a' && (b == b' && (c == c' && e == e'))) w :=
  vec_eqd 9999 a b c e a' b' c' e' w (fun x y => run_equalIn_int (P := Tryd.prog) w 9998 3 .i64 .i64 x y Tryd.underlying3)
theorem vec_eq_self (a b c e : Int) (w : World) : (Op.equalIn 10000 43 (.agg #[.int .i64 a, .int .i64 b, .int .i64 c, .int .i64 e]) (.agg #[.int .i64 a, .int .i64 b, .int .i64 c, .int .i64 e])).run Tryd.prog w = .ok true w := by
  rw [vec_eq]
  simp
theorem vec_neq_self (a b c e : Int) (w : World) : (binOp .neq 43 (.agg #[.int .i64 a, .int .i64 b, .int .i64 c, .int .i64 e]) (.agg #[.int .i64 a, .int .i64 b, .int .i64 c, .int .i64 e])).run Tryd.prog w = .ok (.bool false) w := by
  rw [run_neq_struct, vec_eq]
  simp
end Go.Proofs.YtdebldpmloignaaDoor

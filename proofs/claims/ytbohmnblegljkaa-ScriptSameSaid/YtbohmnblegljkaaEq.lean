/-
  Layer 31: when two structs of integers are equal.
-/
import Derived.Test.YtbohmnblegljkaaOf
import Derived.Laws.StructEq
import Derived.Laws.Tables
import Derived.Laws.Cover2
namespace Go.Proofs.Ytbohmnblegljkaa
open Go.RowKit Go.Bl
set_option linter.unusedVariables false

set_option maxHeartbeats 4000000 in
theorem eq_p42 (a0 a1 a2 a3 a4 a5 b0 b1 b2 b3 b4 b5 : Int) (w : World) (r : Bool) (hr : r = decide (a0 = b0 ∧ a1 = b1 ∧ a2 = b2 ∧ a3 = b3 ∧ a4 = b4 ∧ a5 = b5)) : (Op.equalIn 10000 42 (.agg #[.int .i64 a0, .int .i64 a1, .int .i64 a2, .int .i64 a3, .int .i64 a4, .int .i64 a5]) (.agg #[.int .i64 b0, .int .i64 b1, .int .i64 b2, .int .i64 b3, .int .i64 b4, .int .i64 b5])).run Try.prog w = .ok r w := by
  subst hr
  have hS : Try.prog.underlying 42 = some (.struct (Try.prog.fieldsOf 42)) := by kernel_rfl
  rw [show (10000 : Nat) = 9999 + 1 from rfl, run_equalIn_agg w 9999 42 _ _ hS (by kernel_rfl)]
  simp only [Program.fieldsOf, Try.underlying42]
  go_simp
  (repeat' split) <;> simp_all

set_option maxHeartbeats 4000000 in
theorem eq_p34 (a0 a1 a2 a3 a4 a5 b0 b1 b2 b3 b4 b5 : Int) (w : World) (r : Bool) (hr : r = decide (a0 = b0 ∧ a1 = b1 ∧ a2 = b2 ∧ a3 = b3 ∧ a4 = b4 ∧ a5 = b5)) : (Op.equalIn 10000 34 (.agg #[.int .i64 a0, .int .i64 a1, .int .i64 a2, .int .i64 a3, .int .i64 a4, .int .i64 a5]) (.agg #[.int .i64 b0, .int .i64 b1, .int .i64 b2, .int .i64 b3, .int .i64 b4, .int .i64 b5])).run Try.prog w = .ok r w := by
  subst hr
  have hS : Try.prog.underlying 34 = some (.struct (Try.prog.fieldsOf 34)) := by kernel_rfl
  rw [show (10000 : Nat) = 9999 + 1 from rfl, run_equalIn_agg w 9999 34 _ _ hS (by kernel_rfl)]
  simp only [Program.fieldsOf, Try.underlying34]
  go_simp
  (repeat' split) <;> simp_all

set_option maxHeartbeats 4000000 in
theorem eq_crash (a0 a1 a2 b0 b1 b2 : Int) (w : World) (r : Bool) (hr : r = decide (a0 = b0 ∧ a1 = b1 ∧ a2 = b2)) : (Op.equalIn 10000 37 (.agg #[.int .i64 a0, .int .i64 a1, .int .u64 a2]) (.agg #[.int .i64 b0, .int .i64 b1, .int .u64 b2])).run Try.prog w = .ok r w := by
  subst hr
  have hS : Try.prog.underlying 37 = some (.struct (Try.prog.fieldsOf 37)) := by kernel_rfl
  rw [show (10000 : Nat) = 9999 + 1 from rfl, run_equalIn_agg w 9999 37 _ _ hS (by kernel_rfl)]
  simp only [Program.fieldsOf, Try.underlying37]
  go_simp
  (repeat' split) <;> simp_all

set_option maxHeartbeats 4000000 in
theorem eq_arr (a0 a1 a2 a3 a4 b0 b1 b2 b3 b4 : Int) (w : World) (r : Bool) (hr : r = decide (a0 = b0 ∧ a1 = b1 ∧ a2 = b2 ∧ a3 = b3 ∧ a4 = b4)) : (Op.equalIn 10000 55 (.agg #[.int .i64 a0, .int .i64 a1, .int .i64 a2, .int .i64 a3, .int .i64 a4]) (.agg #[.int .i64 b0, .int .i64 b1, .int .i64 b2, .int .i64 b3, .int .i64 b4])).run Try.prog w = .ok r w := by
  subst hr
  rw [show (10000 : Nat) = 9999 + 1 from rfl, Op.equalIn]
  simp only [Sem.run_bind, run_underlying Try.underlying55, Result.andThen_ok]
  simp only [Std.Legacy.Range.forIn_eq_forIn_range', Std.Legacy.Range.size, Nat.sub_zero, Nat.add_sub_cancel, Nat.div_one, List.range'_succ, List.range'_zero, List.forIn_cons, List.forIn_nil]
  go_simp
  (repeat' split) <;> simp_all
end Go.Proofs.Ytbohmnblegljkaa

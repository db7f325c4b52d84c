/-
  Two players that are the same are equal, as the model compares them.
-/
import Derived.Test.YtehlehfljgphkaaOnce
namespace Go.Proofs.Ytehlehfljgphkaa
open Go.RowKit

set_option maxHeartbeats 1000000 in
theorem equal42 (d : Nat) (w : World) (x y z : Int) : (Op.equalIn (d + 1 + 1) 42 (.agg #[.int .i64 x, .int .i64 y, .int .i64 z]) (.agg #[.int .i64 x, .int .i64 y, .int .i64 z])).run Try.prog w = .ok true w := by
  rw [run_equalIn_struct _ _ _ _ _ (by kernel_rfl) (by kernel_rfl)]
  simp [go_sem]
set_option maxHeartbeats 1000000 in
theorem equal43 (d : Nat) (w : World) (x y : Int) : (Op.equalIn (d + 1 + 1) 43 (.agg #[.int .i64 x, .int .i64 y]) (.agg #[.int .i64 x, .int .i64 y])).run Try.prog w = .ok true w := by
  have hi : (isAgg 3).run Try.prog w = .ok false w := by kernel_rfl
  have hs : (sizeOf 3).run Try.prog w = .ok 1 w := by kernel_rfl
  have hx : ∀ v : Int, (Op.equalIn (d + 1) 3 (.int .i64 v) (.int .i64 v)).run Try.prog w = .ok true w := fun v => by simp [go_sem]
  rw [Op.equalIn]
  simp [run_underlying Try.underlying43, hs, hi, hx, part, List.range', Result.andThen]
set_option maxRecDepth 100000 in
set_option maxHeartbeats 4000000 in
theorem equal45 (w : World) (x y h s : Int) : (Op.equalIn 10000 45 (.agg (plA x y h s)) (.agg (plA x y h s))).run Try.prog w = .ok true w := by
  have h42 : ∀ a b c : Int, (Op.equalIn 9999 42 (.agg #[.int .i64 a, .int .i64 b, .int .i64 c]) (.agg #[.int .i64 a, .int .i64 b, .int .i64 c])).run Try.prog w = .ok true w := fun a b c => equal42 9997 w a b c
  have h43 : ∀ a b : Int, (Op.equalIn 9999 43 (.agg #[.int .i64 a, .int .i64 b]) (.agg #[.int .i64 a, .int .i64 b])).run Try.prog w = .ok true w := fun a b => equal43 9997 w a b
  have h3 : ∀ a : Int, (Op.equalIn 9999 3 (.int .i64 a) (.int .i64 a)).run Try.prog w = .ok true w := fun a => by simp [go_sem]
  have h4 : ∀ a : Bool, (Op.equalIn 9999 4 (.bool a) (.bool a)).run Try.prog w = .ok true w := fun a => by simp [go_sem]
  have i3 : (isAgg 3).run Try.prog w = .ok false w := by kernel_rfl
  have i4 : (isAgg 4).run Try.prog w = .ok false w := by kernel_rfl
  have i42 : (isAgg 42).run Try.prog w = .ok true w := by kernel_rfl
  have i43 : (isAgg 43).run Try.prog w = .ok true w := by kernel_rfl
  have s42 : (sizeOf 42).run Try.prog w = .ok 3 w := by kernel_rfl
  have s43 : (sizeOf 43).run Try.prog w = .ok 2 w := by kernel_rfl
  rw [run_equalIn_struct _ 9999 45 _ _ (by kernel_rfl) (by kernel_rfl)]
  simp [Program.fieldsOf, Try.underlying45, Op.eqFields, part, i3, i4, i42, i43, s42, s43, h3, h4, h42, h43, Result.andThen]
theorem eql45 (w : World) (x y h s : Int) : (binOp .eql 45 (.agg (plA x y h s)) (.agg (plA x y h s))).run Try.prog w = .ok (.bool true) w := by
  rw [run_eql_struct, equal45]; rfl
theorem neq45 (w : World) (x y h s : Int) : (binOp .neq 45 (.agg (plA x y h s)) (.agg (plA x y h s))).run Try.prog w = .ok (.bool false) w := by
  rw [run_neq_struct, equal45]; rfl
end Go.Proofs.Ytehlehfljgphkaa

/- Layouts, and results of steps, compared. By an AI agent. -/
import Derived.Test.YtffhoaimcjpjhaaGreatMem
import Derived.Laws.StructEq
namespace Go.Proofs.YtffhoaimcjpjhaaGreat
open Go.RowKit
section
variable (W : World) (a b c d a' b' c' d' : Int)
theorem layout_neq : Sem.run Tryz.prog (binOp .neq 40 (.agg #[.int .i64 a, .int .i64 b]) (.agg #[.int .i64 a', .int .i64 b'])) W = .ok (.bool (!(a == a' && b == b'))) W := by
  rw [run_neq_struct, run_equalIn_struct W 9999 _ _ _ (by kernel_rfl) (by kernel_rfl)]
  simp only [Program.fieldsOf, Tryz.underlying40]
  simp [go_sem]
  by_cases h1 : a = a' <;> by_cases h2 : b = b' <;> simp [h1, h2]
theorem layout_eql : Sem.run Tryz.prog (binOp .eql 40 (.agg #[.int .i64 a, .int .i64 b]) (.agg #[.int .i64 a', .int .i64 b'])) W = .ok (.bool (a == a' && b == b')) W := by
  rw [run_eql_struct, run_equalIn_struct W 9999 _ _ _ (by kernel_rfl) (by kernel_rfl)]
  simp only [Program.fieldsOf, Tryz.underlying40]
  simp [go_sem]
  by_cases h1 : a = a' <;> by_cases h2 : b = b' <;> simp [h1, h2]
theorem did_neq : Sem.run Tryz.prog (binOp .neq 45 (.agg #[.int .i64 a, .int .i64 b, .int .u64 c, .int .u64 d]) (.agg #[.int .i64 a', .int .i64 b', .int .u64 c', .int .u64 d'])) W = .ok (.bool (!(a == a' && b == b' && c == c' && d == d'))) W := by
  rw [run_neq_struct, run_equalIn_struct W 9999 _ _ _ (by kernel_rfl) (by kernel_rfl)]
  simp only [Program.fieldsOf, Tryz.underlying45]
  simp [go_sem]
  by_cases h1 : a = a' <;> by_cases h2 : b = b' <;> by_cases h3 : c = c' <;> by_cases h4 : d = d' <;> simp [h1, h2, h3, h4]
theorem did_eql : Sem.run Tryz.prog (binOp .eql 45 (.agg #[.int .i64 a, .int .i64 b, .int .u64 c, .int .u64 d]) (.agg #[.int .i64 a', .int .i64 b', .int .u64 c', .int .u64 d'])) W = .ok (.bool (a == a' && b == b' && c == c' && d == d')) W := by
  rw [run_eql_struct, run_equalIn_struct W 9999 _ _ _ (by kernel_rfl) (by kernel_rfl)]
  simp only [Program.fieldsOf, Tryz.underlying45]
  simp [go_sem]
  by_cases h1 : a = a' <;> by_cases h2 : b = b' <;> by_cases h3 : c = c' <;> by_cases h4 : d = d' <;> simp [h1, h2, h3, h4]
theorem did_kind : Sem.run Tryz.prog (Instr.field 45 (.agg #[.int .i64 a, .int .i64 b, .int .u64 c, .int .u64 d]) 0) W = .ok (.int .i64 a) W := by kernel_rfl
end
end Go.Proofs.YtffhoaimcjpjhaaGreat

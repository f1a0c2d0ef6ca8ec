/- An array of four numbers indexed. No condition. -/
import Derived.Test.YtckcepmkfegkiaaDoorProg
import Derived.WalkKit
import Derived.Laws.PanicsMore
namespace Go.Proofs.YtckcepmkfegkiaaDoor.TrIx
open Go.RowKit
set_option linter.unusedSimpArgs false
theorem info_int : (Tryd.prog.info? 3).map (fun i => (i.zero, i.size, i.bytes)) = some (some (.int .i64 0), 1, 8) := by kernel_rfl
theorem ix0 (a b c d : Int) (W : World) : (Instr.index 89 (.agg #[.int .i64 a, .int .i64 b, .int .i64 c, .int .i64 d]) (.int .i64 0)).run Tryd.prog W = .ok (.int .i64 a) W := by
  obtain ⟨i0, hi, hz0, hz1, hz2⟩ := info_parts info_int
  have hag : ∀ w, (isAgg 3).run Tryd.prog w = .ok false w := fun w => by simp [isAgg, run_underlying Tryd.underlying3, Result.andThen]
  simp [Instr.index, run_underlying Tryd.underlying89, sizeOf, typeInfo, hi, hz1, Result.andThen, asIntOf, part, hag, go_sem]
theorem ix1 (a b c d : Int) (W : World) : (Instr.index 89 (.agg #[.int .i64 a, .int .i64 b, .int .i64 c, .int .i64 d]) (.int .i64 1)).run Tryd.prog W = .ok (.int .i64 b) W := by
  obtain ⟨i0, hi, hz0, hz1, hz2⟩ := info_parts info_int
  have hag : ∀ w, (isAgg 3).run Tryd.prog w = .ok false w := fun w => by simp [isAgg, run_underlying Tryd.underlying3, Result.andThen]
  simp [Instr.index, run_underlying Tryd.underlying89, sizeOf, typeInfo, hi, hz1, Result.andThen, asIntOf, part, hag, go_sem]
theorem ix2 (a b c d : Int) (W : World) : (Instr.index 89 (.agg #[.int .i64 a, .int .i64 b, .int .i64 c, .int .i64 d]) (.int .i64 2)).run Tryd.prog W = .ok (.int .i64 c) W := by
  obtain ⟨i0, hi, hz0, hz1, hz2⟩ := info_parts info_int
  have hag : ∀ w, (isAgg 3).run Tryd.prog w = .ok false w := fun w => by simp [isAgg, run_underlying Tryd.underlying3, Result.andThen]
  simp [Instr.index, run_underlying Tryd.underlying89, sizeOf, typeInfo, hi, hz1, Result.andThen, asIntOf, part, hag, go_sem]
theorem ix3 (a b c d : Int) (W : World) : (Instr.index 89 (.agg #[.int .i64 a, .int .i64 b, .int .i64 c, .int .i64 d]) (.int .i64 3)).run Tryd.prog W = .ok (.int .i64 d) W := by
  obtain ⟨i0, hi, hz0, hz1, hz2⟩ := info_parts info_int
  have hag : ∀ w, (isAgg 3).run Tryd.prog w = .ok false w := fun w => by simp [isAgg, run_underlying Tryd.underlying3, Result.andThen]
  simp [Instr.index, run_underlying Tryd.underlying89, sizeOf, typeInfo, hi, hz1, Result.andThen, asIntOf, part, hag, go_sem]
end Go.Proofs.YtckcepmkfegkiaaDoor.TrIx

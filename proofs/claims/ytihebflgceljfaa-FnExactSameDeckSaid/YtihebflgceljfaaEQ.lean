/- Masks compared whole. -/
import Derived.Test.YtihebflgceljfaaM1
import Derived.ChangeKeysEq
set_option linter.unusedVariables false
set_option linter.unusedSimpArgs false
namespace Go.Proofs.Ytihebflgceljfaa
open Go.RowKit
set_option maxHeartbeats 1000000
set_option maxRecDepth 20000
theorem u64_info : (Try.prog.info? 43).map (fun i => (i.zero, i.size, i.bytes)) = some (some (.int .u64 0), 1, 8) := by kernel_rfl
theorem u64_cell : Try.prog.cellsOf 43 = 1 := by kernel_rfl
theorem equal_mask (w : World) (a b c e : Wd) : (Op.equalIn 9999 45 (.agg #[.int .u64 (U a), .int .u64 (U b)]) (.agg #[.int .u64 (U c), .int .u64 (U e)])).run Try.prog w = .ok (a == c && b == e) w := by
  obtain ⟨i0, hi0, hz0, hz1, hz2⟩ := info_parts u64_info
  refine (run_equalIn_array w 9998 _ _ Try.underlying45 hi0).trans ?_
  rw [u64_cell, show List.range 2 = [0, 1] from rfl]
  have hp : Try.prog.plainKey 43 = true := by kernel_rfl
  have h1 := run_equalIn_int (P := Try.prog) w 9997 43 .u64 .u64 (U a) (U c) Try.underlying43
  have h2 := run_equalIn_int (P := Try.prog) w 9997 43 .u64 .u64 (U b) (U e) Try.underlying43
  have p0 : ∀ (x y : Value), (part 43 #[x, y] (0 * 1)).run Try.prog w = .ok x w := fun x y => run_part_plain w hp rfl
  have p1 : ∀ (x y : Value), (part 43 #[x, y] (1 * 1)).run Try.prog w = .ok y w := fun x y => run_part_plain w hp rfl
  simp only [Op.eqItems, Sem.run_bind, p0, p1, Result.andThen_ok, h1, h2, beq_U]
  cases a == c <;> simp [h2, beq_U, p1, Sem.run_bind]
  by_cases hbe : b = e <;> simp [hbe]
end Go.Proofs.Ytihebflgceljfaa

/-
  Two arrays of four rectangles with the same sixteen numbers are told equal. No condition.
-/
import Derived.Test.YtipfngliahhhiaaBase
import Derived.ChangeKeysEq
namespace Go.Proofs.Ytipfngliahhhiaa
open Go.RowKit Go

theorem rectCells : Try.prog.cellsOf 23 = 4 := by kernel_rfl
theorem rectInfo : ∃ i, Try.prog.info? 23 = some i := ⟨(Try.prog.info? 23).getD default, by kernel_rfl⟩

theorem eq16 (z0 z1 z2 z3 z4 z5 z6 z7 z8 z9 z10 z11 z12 z13 z14 z15 : Int) (w : World) :
    (Op.equalIn 10000 24 (.agg #[.int .i64 z0, .int .i64 z1, .int .i64 z2, .int .i64 z3, .int .i64 z4, .int .i64 z5, .int .i64 z6, .int .i64 z7, .int .i64 z8, .int .i64 z9, .int .i64 z10, .int .i64 z11, .int .i64 z12, .int .i64 z13, .int .i64 z14, .int .i64 z15]) (.agg #[.int .i64 z0, .int .i64 z1, .int .i64 z2, .int .i64 z3, .int .i64 z4, .int .i64 z5, .int .i64 z6, .int .i64 z7, .int .i64 z8, .int .i64 z9, .int .i64 z10, .int .i64 z11, .int .i64 z12, .int .i64 z13, .int .i64 z14, .int .i64 z15])).run Try.prog w = .ok true w := by
  obtain ⟨i, hi⟩ := rectInfo
  rw [run_equalIn_array w 9999 _ _ Try.underlying24 hi, rectCells]
  simp only [List.range, List.range.loop, Op.eqItems]
  simp [go_sem]
end Go.Proofs.Ytipfngliahhhiaa

/-
  The walk of the statement RectJoins: it returns true, for every two rectangles.
-/
import Derived.Test.YtipfngliahhhiaaRectK
namespace Go.Proofs.Ytipfngliahhhiaa
open Go.RowKit

/-- what Join gives, under four names -/
def isJoin (x y m n x' y' m' n' px py pw ph : Int) : Prop := px = jx x y m n x' y' m' n' ∧ py = jy x y m n x' y' m' n' ∧ pw = jw x y m n x' y' m' n' ∧ ph = jh x y m n x' y' m' n'
theorem join_as (x y m n x' y' m' n' : Int) (px py pw ph : Int) (w : World) (hj : isJoin x y m n x' y' m' n' px py pw ph) :
    Calls Try.prog 17 #[.agg #[.int .i64 x, .int .i64 y, .int .i64 m, .int .i64 n], .agg #[.int .i64 x', .int .i64 y', .int .i64 m', .int .i64 n']] w fun e w' => e = .returned (.agg #[.int .i64 px, .int .i64 py, .int .i64 pw, .int .i64 ph]) ∧ Below w.heap.size w w' := by
  obtain ⟨rfl, rfl, rfl, rfl⟩ := hj
  exact join_any x y m n x' y' m' n' w
theorem join_as2 (x y m n x' y' m' n' : Int) (px py pw ph : Int) (w : World) (hj : isJoin x' y' m' n' x y m n px py pw ph) :
    Calls Try.prog 17 #[.agg #[.int .i64 x', .int .i64 y', .int .i64 m', .int .i64 n'], .agg #[.int .i64 x, .int .i64 y, .int .i64 m, .int .i64 n]] w fun e w' => e = .returned (.agg #[.int .i64 px, .int .i64 py, .int .i64 pw, .int .i64 ph]) ∧ Below w.heap.size w w' := by
  obtain ⟨rfl, rfl, rfl, rfl⟩ := hj
  exact join_any x' y' m' n' x y m n w
/-- what Growth gives, under one name -/
def isGrowth (x y m n x' y' m' n' g : Int) : Prop := g = areaV (jx x y m n x' y' m' n') (jy x y m n x' y' m' n') (jw x y m n x' y' m' n') (jh x y m n x' y' m' n') - areaV x y m n
theorem growth_as {g : Int} (x y m n x' y' m' n' : Int) (w : World) (hg : isGrowth x y m n x' y' m' n' g) :
    Calls Try.prog 18 #[.agg #[.int .i64 x, .int .i64 y, .int .i64 m, .int .i64 n], .agg #[.int .i64 x', .int .i64 y', .int .i64 m', .int .i64 n']] w fun e w' => e = .returned (.int .i64 g) ∧ Below w.heap.size w w' := by
  obtain rfl := hg
  exact growth_any x y m n x' y' m' n' w

theorem mul_bd {x y m n : Int} (h : rightB x y m n = true) : 0 ≤ m * n ∧ m * n ≤ 65536 := by
  have := areaV_bd x y m n
  simpa [areaV, h] using this

theorem jn_none (x y m n x' y' m' n' : Int) (h1 : rightB x y m n = false) (h2 : rightB x' y' m' n' = false) : isJoin x y m n x' y' m' n' 0 0 0 0 ∧ isGrowth x y m n x' y' m' n' 0 := by
  have e : areaV 0 0 0 0 = 0 := by decide
  have ex : jx x y m n x' y' m' n' = 0 ∧ jy x y m n x' y' m' n' = 0 ∧ jw x y m n x' y' m' n' = 0 ∧ jh x y m n x' y' m' n' = 0 := by simp [jx, jy, jw, jh, h1, h2]
  obtain ⟨e1, e2, e3, e4⟩ := ex
  exact ⟨⟨e1.symm, e2.symm, e3.symm, e4.symm⟩, by rw [isGrowth, e1, e2, e3, e4, e]; simp [areaV, h1]⟩
theorem jn_snd (x y m n x' y' m' n' : Int) (h1 : rightB x y m n = false) (h2 : rightB x' y' m' n' = true) : isJoin x y m n x' y' m' n' x' y' m' n' ∧ isGrowth x y m n x' y' m' n' (m' * n') := by
  have ex : jx x y m n x' y' m' n' = x' ∧ jy x y m n x' y' m' n' = y' ∧ jw x y m n x' y' m' n' = m' ∧ jh x y m n x' y' m' n' = n' := by simp [jx, jy, jw, jh, h1, h2]
  obtain ⟨e1, e2, e3, e4⟩ := ex
  exact ⟨⟨e1.symm, e2.symm, e3.symm, e4.symm⟩, by rw [isGrowth, e1, e2, e3, e4]; simp [areaV, h1, h2]⟩
theorem jn_fst (x y m n x' y' m' n' : Int) (h1 : rightB x y m n = true) (h2 : rightB x' y' m' n' = false) : isJoin x y m n x' y' m' n' x y m n ∧ isGrowth x y m n x' y' m' n' 0 := by
  have ex : jx x y m n x' y' m' n' = x ∧ jy x y m n x' y' m' n' = y ∧ jw x y m n x' y' m' n' = m ∧ jh x y m n x' y' m' n' = n := by simp [jx, jy, jw, jh, h1, h2]
  obtain ⟨e1, e2, e3, e4⟩ := ex
  exact ⟨⟨e1.symm, e2.symm, e3.symm, e4.symm⟩, by rw [isGrowth, e1, e2, e3, e4]; simp [areaV, h1]⟩
theorem jn_both (x y m n x' y' m' n' : Int) (h1 : rightB x y m n = true) (h2 : rightB x' y' m' n' = true) : ∃ px py pw ph, (isJoin x y m n x' y' m' n' px py pw ph ∧ isJoin x' y' m' n' x y m n px py pw ph ∧ isGrowth x y m n x' y' m' n' (pw * ph - m * n) ∧ rightB px py pw ph = true ∧ inB x y m n px py pw ph = true ∧ inB x' y' m' n' px py pw ph = true) ∧
    (px = x ∨ px = x') ∧ (py = y ∨ py = y') ∧ (px + pw = x + m ∨ px + pw = x' + m') ∧ (py + ph = y + n ∨ py + ph = y' + n') := by
  obtain ⟨⟨a1, a2, a3, a4⟩, a5, a6, a7, a8⟩ := of_rightB h1
  obtain ⟨⟨b1, b2, b3, b4⟩, b5, b6, b7, b8⟩ := of_rightB h2
  have hr : rightB (min x x') (min y y') (max (x + m) (x' + m') - min x x') (max (y + n) (y' + n') - min y y') = true := by
    simp only [rightB, Bool.and_eq_true]
    exact ⟨sideB_of (by omega), sideB_of (by omega)⟩
  refine ⟨min x x', min y y', max (x + m) (x' + m') - min x x', max (y + n) (y' + n') - min y y', ⟨?_, ?_, ?_, hr, ?_, ?_⟩, by omega, by omega, by omega, by omega⟩
  · exact ⟨by simp [jx, h1, h2], by simp [jy, h1, h2], by simp [jw, h1, h2], by simp [jh, h1, h2]⟩
  · exact ⟨by simp [jx, h1, h2, Int.min_comm x' x], by simp [jy, h1, h2, Int.min_comm y' y], by simp [jw, h1, h2, Int.min_comm x' x, Int.max_comm (x' + m')], by simp [jh, h1, h2, Int.min_comm y' y, Int.max_comm (y' + n')]⟩
  · simp only [isGrowth, jx, jy, jw, jh, h1, h2, if_true]
    simp [areaV, hr, h1]
  · simp [inB, hr, h1]; omega
  · simp [inB, hr, h2]; omega


end Go.Proofs.Ytipfngliahhhiaa

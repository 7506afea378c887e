/-
  Package rect: Join and Growth in one form each, for every input.
-/
import Derived.Test.YtipfngliahhhiaaRectD
namespace Go.Proofs.Ytipfngliahhhiaa
open Go.RowKit

theorem join_any (x y m n x' y' m' n' : Int) (w : World) :
    Calls Try.prog 17 #[.agg #[.int .i64 x, .int .i64 y, .int .i64 m, .int .i64 n], .agg #[.int .i64 x', .int .i64 y', .int .i64 m', .int .i64 n']] w fun e w' => e = .returned (.agg #[.int .i64 (jx x y m n x' y' m' n'), .int .i64 (jy x y m n x' y' m' n'), .int .i64 (jw x y m n x' y' m' n'), .int .i64 (jh x y m n x' y' m' n')]) ∧ Below w.heap.size w w' := by
  cases h1 : rightB x y m n <;> cases h2 : rightB x' y' m' n' <;> simp only [jx, jy, jw, jh, h1, h2, if_true, if_false, Bool.false_eq_true, reduceIte]
  · exact join_none x y m n x' y' m' n' w h1 h2
  · exact join_snd x y m n x' y' m' n' w h1 h2
  · exact join_fst x y m n x' y' m' n' w h1 h2
  · exact join_both x y m n x' y' m' n' w h1 h2

theorem gr_cells (x y m n x' y' m' n' : Int) (w w1 : World) (h : Below (w.heap.size + 2) ((w.alloc (.cells #[.int .i64 x, .int .i64 y, .int .i64 m, .int .i64 n] 23)).alloc (.cells #[.int .i64 x', .int .i64 y', .int .i64 m', .int .i64 n'] 23)) w1) : w1.cell? ⟨w.heap.size, 0, none⟩ = some (.int .i64 x) ∧ w1.cell? ⟨w.heap.size, 1, none⟩ = some (.int .i64 y) ∧ w1.cell? ⟨w.heap.size, 2, none⟩ = some (.int .i64 m) ∧ w1.cell? ⟨w.heap.size, 3, none⟩ = some (.int .i64 n) ∧ w1.cell? ⟨w.heap.size + 1, 0, none⟩ = some (.int .i64 x') ∧ w1.cell? ⟨w.heap.size + 1, 1, none⟩ = some (.int .i64 y') ∧ w1.cell? ⟨w.heap.size + 1, 2, none⟩ = some (.int .i64 m') ∧ w1.cell? ⟨w.heap.size + 1, 3, none⟩ = some (.int .i64 n') ∧ Below (w.heap.size + 2) ((w.alloc (.cells #[.int .i64 x, .int .i64 y, .int .i64 m, .int .i64 n] 23)).alloc (.cells #[.int .i64 x', .int .i64 y', .int .i64 m', .int .i64 n'] 23)) w1 := by
  have e : ∀ b o, b < w.heap.size + 2 → w1.cell? ⟨b, o, none⟩ = ((w.alloc (.cells #[.int .i64 x, .int .i64 y, .int .i64 m, .int .i64 n] 23)).alloc (.cells #[.int .i64 x', .int .i64 y', .int .i64 m', .int .i64 n'] 23)).cell? ⟨b, o, none⟩ := fun b o hb => h.cell (p := ⟨b, o, none⟩) hb
  refine ⟨?_, ?_, ?_, ?_, ?_, ?_, ?_, ?_, h⟩ <;> (rw [e _ _ (by omega)]; simp [go_sem])

theorem gr_more {x y m n x' y' m' n' : Int} {w wX w1 : World} (k : Below wX.heap.size wX w1) (h : wX.cell? ⟨w.heap.size, 0, none⟩ = some (.int .i64 x) ∧ wX.cell? ⟨w.heap.size, 1, none⟩ = some (.int .i64 y) ∧ wX.cell? ⟨w.heap.size, 2, none⟩ = some (.int .i64 m) ∧ wX.cell? ⟨w.heap.size, 3, none⟩ = some (.int .i64 n) ∧ wX.cell? ⟨w.heap.size + 1, 0, none⟩ = some (.int .i64 x') ∧ wX.cell? ⟨w.heap.size + 1, 1, none⟩ = some (.int .i64 y') ∧ wX.cell? ⟨w.heap.size + 1, 2, none⟩ = some (.int .i64 m') ∧ wX.cell? ⟨w.heap.size + 1, 3, none⟩ = some (.int .i64 n') ∧ Below (w.heap.size + 2) ((w.alloc (.cells #[.int .i64 x, .int .i64 y, .int .i64 m, .int .i64 n] 23)).alloc (.cells #[.int .i64 x', .int .i64 y', .int .i64 m', .int .i64 n'] 23)) wX) : Below (w.heap.size + 2) ((w.alloc (.cells #[.int .i64 x, .int .i64 y, .int .i64 m, .int .i64 n] 23)).alloc (.cells #[.int .i64 x', .int .i64 y', .int .i64 m', .int .i64 n'] 23)) w1 :=
  h.2.2.2.2.2.2.2.2.trans (k.mono (by have := h.2.2.2.2.2.2.2.2.size; simp at this; omega))

set_option maxHeartbeats 1000000 in
theorem growth_any (x y m n x' y' m' n' : Int) (w : World) :
    Calls Try.prog 18 #[.agg #[.int .i64 x, .int .i64 y, .int .i64 m, .int .i64 n], .agg #[.int .i64 x', .int .i64 y', .int .i64 m', .int .i64 n']] w fun e w' => e = .returned (.int .i64 (areaV (jx x y m n x' y' m' n') (jy x y m n x' y' m' n') (jw x y m n x' y' m' n') (jh x y m n x' y' m' n') - areaV x y m n)) ∧ Below w.heap.size w w' := by
  obtain ⟨p1, p2⟩ := areaV_bd x y m n
  obtain ⟨p3, p4⟩ := areaV_bd (jx x y m n x' y' m' n') (jy x y m n x' y' m' n') (jw x y m n x' y' m' n') (jh x y m n x' y' m' n')
  go_enter Try.func18, Try.ntmps18
  go_wp2_with fail
  go_region_held3 (fun w' => w'.cell? ⟨w.heap.size, 0, none⟩ = some (.int .i64 x) ∧ w'.cell? ⟨w.heap.size, 1, none⟩ = some (.int .i64 y) ∧ w'.cell? ⟨w.heap.size, 2, none⟩ = some (.int .i64 m) ∧ w'.cell? ⟨w.heap.size, 3, none⟩ = some (.int .i64 n) ∧ w'.cell? ⟨w.heap.size + 1, 0, none⟩ = some (.int .i64 x') ∧ w'.cell? ⟨w.heap.size + 1, 1, none⟩ = some (.int .i64 y') ∧ w'.cell? ⟨w.heap.size + 1, 2, none⟩ = some (.int .i64 m') ∧ w'.cell? ⟨w.heap.size + 1, 3, none⟩ = some (.int .i64 n') ∧ Below (w.heap.size + 2) ((w.alloc (.cells #[.int .i64 x, .int .i64 y, .int .i64 m, .int .i64 n] 23)).alloc (.cells #[.int .i64 x', .int .i64 y', .int .i64 m', .int .i64 n'] 23)) w') (first | exact gr_cells _ _ _ _ _ _ _ _ _ _ (Below.refl _ _) | exact gr_cells _ _ _ _ _ _ _ _ _ _ (Below.refl _ _).drew | exact gr_cells _ _ _ _ _ _ _ _ _ _ (gr_more (by assumption) (by assumption)))
    (first
      | (go_at_call 17; refine (join_any _ _ _ _ _ _ _ _ _).mono ?_; rintro e w1 ⟨rfl, hb1⟩)
      | (go_at_call 20; refine (area_any _ _ _ _ _).mono ?_; rintro e w2 ⟨rfl, hb2⟩))
  all_goals go_wp2

  all_goals go_ret
  all_goals refine ⟨ret_int (IntWalk.i64_in _ (by omega)), ?_⟩
  repeat' (first | with_reducible assumption | with_reducible refine Below.setCell ?_ ?_ _ | with_reducible refine below_drewN ?_ _ | with_reducible refine Below.drew ?_ | with_reducible refine balloc ?_ _ | with_reducible exact Below.refl _ _ | with_reducible refine bstep ?_ (by assumption) | with_reducible refine Below.alloc ?_ ?_ _ | with_reducible refine bthrough ?_ (by assumption) ?_)
  all_goals (first | omega | (simp; done) | (simp; omega))
end Go.Proofs.Ytipfngliahhhiaa

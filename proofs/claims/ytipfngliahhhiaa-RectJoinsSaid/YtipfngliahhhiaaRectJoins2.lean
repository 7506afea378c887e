/-
  The walk of the statement RectJoins where the first rectangle alone is right.
-/
import Derived.Test.YtipfngliahhhiaaRectJoins0
namespace Go.Proofs.Ytipfngliahhhiaa
open Go.RowKit

set_option maxRecDepth 100000 in
set_option maxHeartbeats 400000 in
theorem lawJoins_fst (x y m n x' y' m' n' : Int) (h1 : rightB x y m n = true) (h2 : rightB x' y' m' n' = false) (w : World) :
    Calls Try.prog 5 #[.agg #[.int .i64 x, .int .i64 y, .int .i64 m, .int .i64 n], .agg #[.int .i64 x', .int .i64 y', .int .i64 m', .int .i64 n']] w fun e w' => e = .returned (.bool true) ∧ Below w.heap.size w w' := by
  obtain ⟨hj, hg⟩ := jn_fst x y m n x' y' m' n' h1 h2
  have HJ := hid hj
  have HG := hid hg
  clear hj hg
  go_enter Try.func5, Try.ntmps5
  go_wp2_with fail
  refine (join_as _ _ _ _ _ _ _ _ x y m n _ HJ.out).mono ?_
  rintro e w1 ⟨rfl, hbw1⟩
  obtain ⟨hcw1, hfw1⟩ := bcell hbw1
  have hsw1 := hbw1.size
  try simp at hcw1 hfw1 hsw1
  have lw1_0 : w.heap.size < w1.heap.size := by omega
  have lw1_1 : w.heap.size + 1 < w1.heap.size := by omega
  go_wp2_with fail
  have hS2 : (w1.alloc (.cells #[.int .i64 x, .int .i64 y, .int .i64 m, .int .i64 n] 23)).cell? ⟨w.heap.size, 0, none⟩ = some (.int .i64 x) ∧ (w1.alloc (.cells #[.int .i64 x, .int .i64 y, .int .i64 m, .int .i64 n] 23)).cell? ⟨w.heap.size, 1, none⟩ = some (.int .i64 y) ∧ (w1.alloc (.cells #[.int .i64 x, .int .i64 y, .int .i64 m, .int .i64 n] 23)).cell? ⟨w.heap.size, 2, none⟩ = some (.int .i64 m) ∧ (w1.alloc (.cells #[.int .i64 x, .int .i64 y, .int .i64 m, .int .i64 n] 23)).cell? ⟨w.heap.size, 3, none⟩ = some (.int .i64 n) ∧ (w1.alloc (.cells #[.int .i64 x, .int .i64 y, .int .i64 m, .int .i64 n] 23)).cell? ⟨w.heap.size + 1, 0, none⟩ = some (.int .i64 x') ∧ (w1.alloc (.cells #[.int .i64 x, .int .i64 y, .int .i64 m, .int .i64 n] 23)).cell? ⟨w.heap.size + 1, 1, none⟩ = some (.int .i64 y') ∧ (w1.alloc (.cells #[.int .i64 x, .int .i64 y, .int .i64 m, .int .i64 n] 23)).cell? ⟨w.heap.size + 1, 2, none⟩ = some (.int .i64 m') ∧ (w1.alloc (.cells #[.int .i64 x, .int .i64 y, .int .i64 m, .int .i64 n] 23)).cell? ⟨w.heap.size + 1, 3, none⟩ = some (.int .i64 n') ∧ (w1.alloc (.cells #[.int .i64 x, .int .i64 y, .int .i64 m, .int .i64 n] 23)).cell? ⟨w1.heap.size, 0, none⟩ = some (.int .i64 x) ∧ (w1.alloc (.cells #[.int .i64 x, .int .i64 y, .int .i64 m, .int .i64 n] 23)).cell? ⟨w1.heap.size, 1, none⟩ = some (.int .i64 y) ∧ (w1.alloc (.cells #[.int .i64 x, .int .i64 y, .int .i64 m, .int .i64 n] 23)).cell? ⟨w1.heap.size, 2, none⟩ = some (.int .i64 m) ∧ (w1.alloc (.cells #[.int .i64 x, .int .i64 y, .int .i64 m, .int .i64 n] 23)).cell? ⟨w1.heap.size, 3, none⟩ = some (.int .i64 n) := by
    simp [go_sem, hcw1, lw1_0, lw1_1]
  have hb2 : Below w.heap.size w (w1.alloc (.cells #[.int .i64 x, .int .i64 y, .int .i64 m, .int .i64 n] 23)) := by
    repeat' (first | with_reducible assumption | with_reducible refine Below.setCell ?_ ?_ _ | with_reducible refine below_drewN ?_ _ | with_reducible refine Below.drew ?_ | with_reducible refine balloc ?_ _ | with_reducible exact Below.refl _ _ | with_reducible refine bstep ?_ (by assumption) | with_reducible refine Below.alloc ?_ ?_ _ | with_reducible refine bthrough ?_ (by assumption) ?_)
    all_goals (first | omega | (simp; done) | (simp; omega))
  have hs2 : (w1.alloc (.cells #[.int .i64 x, .int .i64 y, .int .i64 m, .int .i64 n] 23)).heap.size = w1.heap.size + 1 := by simp
  generalize w1.alloc (.cells #[.int .i64 x, .int .i64 y, .int .i64 m, .int .i64 n] 23) = W2 at hS2 hb2 hs2 ⊢
  have lW2_0 : w.heap.size < W2.heap.size := by omega
  have lW2_1 : w.heap.size + 1 < W2.heap.size := by omega
  have lW2_2 : w1.heap.size < W2.heap.size := by omega
  clear hcw1 hfw1 hbw1 hs2
  go_upto_region 2 with fail
  go_cut [6, 7] (fun s6 s7 wx => s6 = .bool true ∧ s7 = .bool false ∧ wx.cell? ⟨w.heap.size, 0, none⟩ = some (.int .i64 x) ∧ wx.cell? ⟨w.heap.size, 1, none⟩ = some (.int .i64 y) ∧ wx.cell? ⟨w.heap.size, 2, none⟩ = some (.int .i64 m) ∧ wx.cell? ⟨w.heap.size, 3, none⟩ = some (.int .i64 n) ∧ wx.cell? ⟨w.heap.size + 1, 0, none⟩ = some (.int .i64 x') ∧ wx.cell? ⟨w.heap.size + 1, 1, none⟩ = some (.int .i64 y') ∧ wx.cell? ⟨w.heap.size + 1, 2, none⟩ = some (.int .i64 m') ∧ wx.cell? ⟨w.heap.size + 1, 3, none⟩ = some (.int .i64 n') ∧ wx.cell? ⟨w1.heap.size, 0, none⟩ = some (.int .i64 x) ∧ wx.cell? ⟨w1.heap.size, 1, none⟩ = some (.int .i64 y) ∧ wx.cell? ⟨w1.heap.size, 2, none⟩ = some (.int .i64 m) ∧ wx.cell? ⟨w1.heap.size, 3, none⟩ = some (.int .i64 n) ∧ Below W2.heap.size W2 wx)
  case first =>
    go_region_held3 (fun w' => w'.cell? ⟨w.heap.size, 0, none⟩ = some (.int .i64 x) ∧ w'.cell? ⟨w.heap.size, 1, none⟩ = some (.int .i64 y) ∧ w'.cell? ⟨w.heap.size, 2, none⟩ = some (.int .i64 m) ∧ w'.cell? ⟨w.heap.size, 3, none⟩ = some (.int .i64 n) ∧ w'.cell? ⟨w.heap.size + 1, 0, none⟩ = some (.int .i64 x') ∧ w'.cell? ⟨w.heap.size + 1, 1, none⟩ = some (.int .i64 y') ∧ w'.cell? ⟨w.heap.size + 1, 2, none⟩ = some (.int .i64 m') ∧ w'.cell? ⟨w.heap.size + 1, 3, none⟩ = some (.int .i64 n') ∧ w'.cell? ⟨w1.heap.size, 0, none⟩ = some (.int .i64 x) ∧ w'.cell? ⟨w1.heap.size, 1, none⟩ = some (.int .i64 y) ∧ w'.cell? ⟨w1.heap.size, 2, none⟩ = some (.int .i64 m) ∧ w'.cell? ⟨w1.heap.size, 3, none⟩ = some (.int .i64 n) ∧ Below W2.heap.size W2 w') (first | exact keep12 lW2_0 lW2_1 lW2_2 (Below.refl _ _) hS2 | exact keep12 lW2_0 lW2_1 lW2_2 (Below.refl _ _).drew hS2 | exact keep12 lW2_0 lW2_1 lW2_2 (more12 (by assumption) (by assumption)) hS2)
      (first
      | (go_at_call 9; refine (ref_any _ _ _ _ _).mono ?_; rintro e wq ⟨rfl, hbq⟩)
      | (go_at_call 8; refine (refRight_any _ _ _ _ _).mono ?_; rintro e wq ⟨rfl, hbq⟩)
      | (go_at_call 16; refine (right_any _ _ _ _ _).mono ?_; rintro e wq ⟨rfl, hbq⟩)
      | (go_at_call 14; refine (in_any _ _ _ _ _ _ _ _ _).mono ?_; rintro e wq ⟨rfl, hbq⟩)
      | (go_at_call 18; refine (growth_as _ _ _ _ _ _ _ _ _ HG.out).mono ?_; rintro e wq ⟨rfl, hbq⟩)
      | (go_at_call 17; refine (join_as2 _ _ _ _ _ _ _ _ _ _ _ _ _ HJ2.out).mono ?_; rintro e wq ⟨rfl, hbq⟩)
      | (go_at_call 10; refine (awake_any _).mono ?_; rintro e wq ⟨rfl, hbq⟩))
    all_goals go_wp2_with fail
    all_goals go_meet
    all_goals exact ⟨rfl, rfl, by assumption⟩
  case rest =>
    obtain ⟨wk, rfl⟩ : ∃ wk : World, wk = wc := ⟨_, rfl⟩
    obtain ⟨rfl, rfl, hSc⟩ := hcut
    have hbc := last12 hSc
    have hsc := hbc.size
    have hSd : wk.cell? ⟨w.heap.size, 0, none⟩ = some (.int .i64 x) ∧ wk.cell? ⟨w.heap.size, 1, none⟩ = some (.int .i64 y) ∧ wk.cell? ⟨w.heap.size, 2, none⟩ = some (.int .i64 m) ∧ wk.cell? ⟨w.heap.size, 3, none⟩ = some (.int .i64 n) ∧ wk.cell? ⟨w.heap.size + 1, 0, none⟩ = some (.int .i64 x') ∧ wk.cell? ⟨w.heap.size + 1, 1, none⟩ = some (.int .i64 y') ∧ wk.cell? ⟨w.heap.size + 1, 2, none⟩ = some (.int .i64 m') ∧ wk.cell? ⟨w.heap.size + 1, 3, none⟩ = some (.int .i64 n') ∧ wk.cell? ⟨w1.heap.size, 0, none⟩ = some (.int .i64 x) ∧ wk.cell? ⟨w1.heap.size, 1, none⟩ = some (.int .i64 y) ∧ wk.cell? ⟨w1.heap.size, 2, none⟩ = some (.int .i64 m) ∧ wk.cell? ⟨w1.heap.size, 3, none⟩ = some (.int .i64 n) := by
      obtain ⟨g0, g1, g2, g3, g4, g5, g6, g7, g8, g9, g10, g11, _⟩ := hSc
      exact ⟨g0, g1, g2, g3, g4, g5, g6, g7, g8, g9, g10, g11⟩
    have lwk_0 : w.heap.size < wk.heap.size := by omega
    have lwk_1 : w.heap.size + 1 < wk.heap.size := by omega
    have lwk_2 : w1.heap.size < wk.heap.size := by omega
    clear hS2 hSc
    go_wp2_with fail
    refine (growth_as _ _ _ _ _ _ _ _ _ HG.out).mono ?_
    rintro e w3 ⟨rfl, hbw3⟩
    obtain ⟨hcw3, hfw3⟩ := bcell hbw3
    have hsw3 := hbw3.size
    try simp at hcw3 hfw3 hsw3
    have lw3_0 : w.heap.size < w3.heap.size := by omega
    have lw3_1 : w.heap.size + 1 < w3.heap.size := by omega
    have lw3_2 : w1.heap.size < w3.heap.size := by omega
    go_wp2_with fail
    refine (awake_any _).mono ?_
    rintro e w4 ⟨rfl, hbw4⟩
    obtain ⟨hcw4, hfw4⟩ := bcell hbw4
    have hsw4 := hbw4.size
    try simp at hcw4 hfw4 hsw4
    have lw4_0 : w.heap.size < w4.heap.size := by omega
    have lw4_1 : w.heap.size + 1 < w4.heap.size := by omega
    have lw4_2 : w1.heap.size < w4.heap.size := by omega
    all_goals go_wp2
    all_goals go_ret
    all_goals refine ⟨rfl, ?_⟩
    repeat' (first | with_reducible assumption | with_reducible refine Below.setCell ?_ ?_ _ | with_reducible refine below_drewN ?_ _ | with_reducible refine Below.drew ?_ | with_reducible refine balloc ?_ _ | with_reducible exact Below.refl _ _ | with_reducible refine bstep ?_ (by assumption) | with_reducible refine Below.alloc ?_ ?_ _ | with_reducible refine bthrough ?_ (by assumption) ?_)
    all_goals (first | omega | (simp; done) | (simp; omega))

end Go.Proofs.Ytipfngliahhhiaa

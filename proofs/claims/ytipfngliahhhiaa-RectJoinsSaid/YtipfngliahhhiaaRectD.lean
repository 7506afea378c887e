/-
  Package rect: Join and Growth, for every input.
-/
import Derived.Test.YtipfngliahhhiaaRectC
namespace Go.Proofs.Ytipfngliahhhiaa
open Go.RowKit

def jx (x y m n x' y' m' n' : Int) : Int := if rightB x y m n = true then (if rightB x' y' m' n' = true then min x x' else x) else (if rightB x' y' m' n' = true then x' else 0)
def jy (x y m n x' y' m' n' : Int) : Int := if rightB x y m n = true then (if rightB x' y' m' n' = true then min y y' else y) else (if rightB x' y' m' n' = true then y' else 0)
def jw (x y m n x' y' m' n' : Int) : Int := if rightB x y m n = true then (if rightB x' y' m' n' = true then max (x + m) (x' + m') - min x x' else m) else (if rightB x' y' m' n' = true then m' else 0)
def jh (x y m n x' y' m' n' : Int) : Int := if rightB x y m n = true then (if rightB x' y' m' n' = true then max (y + n) (y' + n') - min y y' else n) else (if rightB x' y' m' n' = true then n' else 0)

set_option maxHeartbeats 400000 in
theorem join_none (x y m n x' y' m' n' : Int) (w : World) (h1 : rightB x y m n = false) (h2 : rightB x' y' m' n' = false) :
    Calls Try.prog 17 #[.agg #[.int .i64 x, .int .i64 y, .int .i64 m, .int .i64 n], .agg #[.int .i64 x', .int .i64 y', .int .i64 m', .int .i64 n']] w fun e w' => e = .returned (.agg #[.int .i64 0, .int .i64 0, .int .i64 0, .int .i64 0]) ∧ Below w.heap.size w w' := by
  go_enter Try.func17, Try.ntmps17
  go_wp2_with fail
  refine (right_any _ _ _ _ _).mono ?_
  rintro e w1 ⟨rfl, hbw1⟩
  obtain ⟨hcw1, hfw1⟩ := bcell hbw1
  have hsw1 := hbw1.size
  try simp at hcw1 hfw1 hsw1
  have lw1_0 : w.heap.size < w1.heap.size := by omega
  have lw1_1 : w.heap.size + 1 < w1.heap.size := by omega
  have lw1_2 : w.heap.size + 1 + 1 < w1.heap.size := by omega
  go_wp2_with fail
  refine (right_any _ _ _ _ _).mono ?_
  rintro e w2 ⟨rfl, hbw2⟩
  obtain ⟨hcw2, hfw2⟩ := bcell hbw2
  have hsw2 := hbw2.size
  try simp at hcw2 hfw2 hsw2
  have lw2_0 : w.heap.size < w2.heap.size := by omega
  have lw2_1 : w.heap.size + 1 < w2.heap.size := by omega
  have lw2_2 : w.heap.size + 1 + 1 < w2.heap.size := by omega
  go_wp2
  refine bodyPost_ret (v := .agg #[.int .i64 0, .int .i64 0, .int .i64 0, .int .i64 0]) (by simp [results, Try.results17, go_sem, hcw1, hcw2, lw1_0, lw1_1, lw1_2, lw2_0, lw2_1, lw2_2]) rfl ⟨rfl, ?_⟩
  repeat' (first | with_reducible assumption | with_reducible refine Below.setCell ?_ ?_ _ | with_reducible refine below_drewN ?_ _ | with_reducible refine Below.drew ?_ | with_reducible refine balloc ?_ _ | with_reducible exact Below.refl _ _ | with_reducible refine bstep ?_ (by assumption) | with_reducible refine Below.alloc ?_ ?_ _ | with_reducible refine bthrough ?_ (by assumption) ?_)
  all_goals (first | omega | (simp; done) | (simp; omega))

set_option maxHeartbeats 400000 in
theorem join_snd (x y m n x' y' m' n' : Int) (w : World) (h1 : rightB x y m n = false) (h2 : rightB x' y' m' n' = true) :
    Calls Try.prog 17 #[.agg #[.int .i64 x, .int .i64 y, .int .i64 m, .int .i64 n], .agg #[.int .i64 x', .int .i64 y', .int .i64 m', .int .i64 n']] w fun e w' => e = .returned (.agg #[.int .i64 x', .int .i64 y', .int .i64 m', .int .i64 n']) ∧ Below w.heap.size w w' := by
  go_enter Try.func17, Try.ntmps17
  go_wp2_with fail
  refine (right_any _ _ _ _ _).mono ?_
  rintro e w1 ⟨rfl, hbw1⟩
  obtain ⟨hcw1, hfw1⟩ := bcell hbw1
  have hsw1 := hbw1.size
  try simp at hcw1 hfw1 hsw1
  have lw1_0 : w.heap.size < w1.heap.size := by omega
  have lw1_1 : w.heap.size + 1 < w1.heap.size := by omega
  have lw1_2 : w.heap.size + 1 + 1 < w1.heap.size := by omega
  go_wp2_with fail
  refine (right_any _ _ _ _ _).mono ?_
  rintro e w2 ⟨rfl, hbw2⟩
  obtain ⟨hcw2, hfw2⟩ := bcell hbw2
  have hsw2 := hbw2.size
  try simp at hcw2 hfw2 hsw2
  have lw2_0 : w.heap.size < w2.heap.size := by omega
  have lw2_1 : w.heap.size + 1 < w2.heap.size := by omega
  have lw2_2 : w.heap.size + 1 + 1 < w2.heap.size := by omega
  go_wp2_with fail
  refine (right_any _ _ _ _ _).mono ?_
  rintro e w3 ⟨rfl, hbw3⟩
  obtain ⟨hcw3, hfw3⟩ := bcell hbw3
  have hsw3 := hbw3.size
  try simp at hcw3 hfw3 hsw3
  have lw3_0 : w.heap.size < w3.heap.size := by omega
  have lw3_1 : w.heap.size + 1 < w3.heap.size := by omega
  have lw3_2 : w.heap.size + 1 + 1 < w3.heap.size := by omega
  go_wp2
  refine bodyPost_ret (v := .agg #[.int .i64 x', .int .i64 y', .int .i64 m', .int .i64 n']) (by simp [results, Try.results17, go_sem, hcw1, hcw2, hcw3, lw1_0, lw1_1, lw1_2, lw2_0, lw2_1, lw2_2, lw3_0, lw3_1, lw3_2]) rfl ⟨rfl, ?_⟩
  repeat' (first | with_reducible assumption | with_reducible refine Below.setCell ?_ ?_ _ | with_reducible refine below_drewN ?_ _ | with_reducible refine Below.drew ?_ | with_reducible refine balloc ?_ _ | with_reducible exact Below.refl _ _ | with_reducible refine bstep ?_ (by assumption) | with_reducible refine Below.alloc ?_ ?_ _ | with_reducible refine bthrough ?_ (by assumption) ?_)
  all_goals (first | omega | (simp; done) | (simp; omega))

set_option maxHeartbeats 400000 in
theorem join_fst (x y m n x' y' m' n' : Int) (w : World) (h1 : rightB x y m n = true) (h2 : rightB x' y' m' n' = false) :
    Calls Try.prog 17 #[.agg #[.int .i64 x, .int .i64 y, .int .i64 m, .int .i64 n], .agg #[.int .i64 x', .int .i64 y', .int .i64 m', .int .i64 n']] w fun e w' => e = .returned (.agg #[.int .i64 x, .int .i64 y, .int .i64 m, .int .i64 n]) ∧ Below w.heap.size w w' := by
  go_enter Try.func17, Try.ntmps17
  go_wp2_with fail
  refine (right_any _ _ _ _ _).mono ?_
  rintro e w1 ⟨rfl, hbw1⟩
  obtain ⟨hcw1, hfw1⟩ := bcell hbw1
  have hsw1 := hbw1.size
  try simp at hcw1 hfw1 hsw1
  have lw1_0 : w.heap.size < w1.heap.size := by omega
  have lw1_1 : w.heap.size + 1 < w1.heap.size := by omega
  have lw1_2 : w.heap.size + 1 + 1 < w1.heap.size := by omega
  go_wp2_with fail
  refine (right_any _ _ _ _ _).mono ?_
  rintro e w2 ⟨rfl, hbw2⟩
  obtain ⟨hcw2, hfw2⟩ := bcell hbw2
  have hsw2 := hbw2.size
  try simp at hcw2 hfw2 hsw2
  have lw2_0 : w.heap.size < w2.heap.size := by omega
  have lw2_1 : w.heap.size + 1 < w2.heap.size := by omega
  have lw2_2 : w.heap.size + 1 + 1 < w2.heap.size := by omega
  go_wp2_with fail
  refine (right_any _ _ _ _ _).mono ?_
  rintro e w3 ⟨rfl, hbw3⟩
  obtain ⟨hcw3, hfw3⟩ := bcell hbw3
  have hsw3 := hbw3.size
  try simp at hcw3 hfw3 hsw3
  have lw3_0 : w.heap.size < w3.heap.size := by omega
  have lw3_1 : w.heap.size + 1 < w3.heap.size := by omega
  have lw3_2 : w.heap.size + 1 + 1 < w3.heap.size := by omega
  go_wp2
  refine bodyPost_ret (v := .agg #[.int .i64 x, .int .i64 y, .int .i64 m, .int .i64 n]) (by simp [results, Try.results17, go_sem, hcw1, hcw2, hcw3, lw1_0, lw1_1, lw1_2, lw2_0, lw2_1, lw2_2, lw3_0, lw3_1, lw3_2]) rfl ⟨rfl, ?_⟩
  repeat' (first | with_reducible assumption | with_reducible refine Below.setCell ?_ ?_ _ | with_reducible refine below_drewN ?_ _ | with_reducible refine Below.drew ?_ | with_reducible refine balloc ?_ _ | with_reducible exact Below.refl _ _ | with_reducible refine bstep ?_ (by assumption) | with_reducible refine Below.alloc ?_ ?_ _ | with_reducible refine bthrough ?_ (by assumption) ?_)
  all_goals (first | omega | (simp; done) | (simp; omega))

set_option maxHeartbeats 1000000 in
theorem join_both (x y m n x' y' m' n' : Int) (w : World) (h1 : rightB x y m n = true) (h2 : rightB x' y' m' n' = true) :
    Calls Try.prog 17 #[.agg #[.int .i64 x, .int .i64 y, .int .i64 m, .int .i64 n], .agg #[.int .i64 x', .int .i64 y', .int .i64 m', .int .i64 n']] w fun e w' => e = .returned (.agg #[.int .i64 (min x x'), .int .i64 (min y y'), .int .i64 (max (x + m) (x' + m') - min x x'), .int .i64 (max (y + n) (y' + n') - min y y')]) ∧ Below w.heap.size w w' := by
  obtain ⟨⟨a1, a2, a3, a4⟩, a5, a6, a7, a8⟩ := of_rightB h1
  obtain ⟨⟨b1, b2, b3, b4⟩, b5, b6, b7, b8⟩ := of_rightB h2
  go_enter Try.func17, Try.ntmps17
  go_wp2_with fail
  refine (right_any _ _ _ _ _).mono ?_
  rintro e w1 ⟨rfl, hbw1⟩
  obtain ⟨hcw1, hfw1⟩ := bcell hbw1
  have hsw1 := hbw1.size
  try simp at hcw1 hfw1 hsw1
  have lw1_0 : w.heap.size < w1.heap.size := by omega
  have lw1_1 : w.heap.size + 1 < w1.heap.size := by omega
  have lw1_2 : w.heap.size + 1 + 1 < w1.heap.size := by omega
  go_wp2_with fail
  refine (right_any _ _ _ _ _).mono ?_
  rintro e w2 ⟨rfl, hbw2⟩
  obtain ⟨hcw2, hfw2⟩ := bcell hbw2
  have hsw2 := hbw2.size
  try simp at hcw2 hfw2 hsw2
  have lw2_0 : w.heap.size < w2.heap.size := by omega
  have lw2_1 : w.heap.size + 1 < w2.heap.size := by omega
  have lw2_2 : w.heap.size + 1 + 1 < w2.heap.size := by omega
  go_wp2_with fail
  refine (right_any _ _ _ _ _).mono ?_
  rintro e w3 ⟨rfl, hbw3⟩
  obtain ⟨hcw3, hfw3⟩ := bcell hbw3
  have hsw3 := hbw3.size
  try simp at hcw3 hfw3 hsw3
  have lw3_0 : w.heap.size < w3.heap.size := by omega
  have lw3_1 : w.heap.size + 1 < w3.heap.size := by omega
  have lw3_2 : w.heap.size + 1 + 1 < w3.heap.size := by omega
  go_wp2_with fail
  refine (ends_any _ _ _ _ _ (by omega) (by omega) (by omega) (by omega)).mono ?_
  rintro e w4 ⟨rfl, hbw4⟩
  obtain ⟨hcw4, hfw4⟩ := bcell hbw4
  have hsw4 := hbw4.size
  try simp at hcw4 hfw4 hsw4
  have lw4_0 : w.heap.size < w4.heap.size := by omega
  have lw4_1 : w.heap.size + 1 < w4.heap.size := by omega
  have lw4_2 : w.heap.size + 1 + 1 < w4.heap.size := by omega
  go_wp2_with fail
  refine (ends_any _ _ _ _ _ (by omega) (by omega) (by omega) (by omega)).mono ?_
  rintro e w5 ⟨rfl, hbw5⟩
  obtain ⟨hcw5, hfw5⟩ := bcell hbw5
  have hsw5 := hbw5.size
  try simp at hcw5 hfw5 hsw5
  have lw5_0 : w.heap.size < w5.heap.size := by omega
  have lw5_1 : w.heap.size + 1 < w5.heap.size := by omega
  have lw5_2 : w.heap.size + 1 + 1 < w5.heap.size := by omega
  go_upto_region 9 with fail
  go_cut [4] (fun s4 wx => s4 = .pointer (some ⟨w.heap.size + 1 + 1, 0, none⟩) ∧ w.heap.size + 1 + 1 < wx.heap.size ∧ wx.cell? ⟨w.heap.size + 1 + 1, 0, none⟩ = some (.int .i64 (min x x')) ∧ wx.cell? ⟨w.heap.size + 1 + 1, 1, none⟩ = some (.int .i64 (min y y')) ∧ wx.cell? ⟨w.heap.size + 1 + 1, 2, none⟩ = some (.int .i64 (max (x + m) (x' + m') - min x x')) ∧ wx.cell? ⟨w.heap.size + 1 + 1, 3, none⟩ = some (.int .i64 (max (y + n) (y' + n') - min y y')) ∧ Below w.heap.size w5 wx)
  case first =>
    go_wp2_with fail
    all_goals refine (between_yes _ _ _ _ _ (by omega) (by omega) (by omega) (by omega) (by omega) (by omega)).mono ?_
    all_goals rintro e w6 ⟨rfl, hbw6⟩
    all_goals obtain ⟨hcw6, hfw6⟩ := bcell hbw6
    all_goals have hsw6 := hbw6.size
    all_goals have lw6_0 : w.heap.size < w6.heap.size := by omega
    all_goals have lw6_1 : w.heap.size + 1 < w6.heap.size := by omega
    all_goals have lw6_2 : w.heap.size + 1 + 1 < w6.heap.size := by omega
    all_goals go_wp2
    all_goals go_meet
    all_goals refine ⟨rfl, by simp; omega, ?_, ?_, ?_, ?_, ?_⟩
    all_goals first | (with_reducible exact ((((hbw6.mono (by omega)).setCell (by simp; omega) _).setCell (by simp; omega) _).setCell (by simp; omega) _).setCell (by simp; omega) _) | (simp [go_sem, hcw1, hcw2, hcw3, hcw4, hcw5, hcw6, lw1_2, lw2_2, lw3_2, lw4_2, lw5_2, lw6_2]; done) | (simp [go_sem, hcw1, hcw2, hcw3, hcw4, hcw5, hcw6, lw1_2, lw2_2, lw3_2, lw4_2, lw5_2, lw6_2]; omega)
  case rest =>
    obtain ⟨rfl, hg, hc0, hc1, hc2, hc3, hbx⟩ := hcut
    go_wp2
    refine bodyPost_ret (v := .agg #[.int .i64 (min x x'), .int .i64 (min y y'), .int .i64 (max (x + m) (x' + m') - min x x'), .int .i64 (max (y + n) (y' + n') - min y y')]) (by simp [results, Try.results17, go_sem, hc0, hc1, hc2, hc3]) rfl ⟨rfl, ?_⟩
    refine Below.trans ?_ hbx
    repeat' (first | with_reducible assumption | with_reducible refine Below.setCell ?_ ?_ _ | with_reducible refine below_drewN ?_ _ | with_reducible refine Below.drew ?_ | with_reducible refine balloc ?_ _ | with_reducible exact Below.refl _ _ | with_reducible refine bstep ?_ (by assumption) | with_reducible refine Below.alloc ?_ ?_ _ | with_reducible refine bthrough ?_ (by assumption) ?_)
    all_goals (first | omega | (simp; done) | (simp; omega))

end Go.Proofs.Ytipfngliahhhiaa

/-
  The reference's Meets, for every input: the same as what package rect's Common finds.
-/
import Derived.Test.YtipfngliahhhiaaRectB2
import Derived.Test.YtipfngliahhhiaaRectF
namespace Go.Proofs.Ytipfngliahhhiaa
open Go.RowKit

def ovB (lo i lo' hi' : Int) : Bool := decide (max lo lo' < min i hi')
theorem ov_start (lo lo' hi' : Int) : ovB lo lo lo' hi' = false := by simp [ovB]; omega
theorem ov_hit {lo i lo' hi' : Int} (h0 : lo ≤ i) (h1 : lo' ≤ i) (h2 : i < hi') : ovB lo (i + 1) lo' hi' = true := by simp [ovB]; omega
theorem ov_miss {lo i lo' hi' : Int} (h0 : lo ≤ i) (h : ¬ (lo' ≤ i ∧ i < hi')) (h3 : lo' < hi') : ovB lo (i + 1) lo' hi' = ovB lo i lo' hi' := by
  unfold ovB
  rw [Bool.eq_iff_iff]
  simp only [decide_eq_true_eq]
  omega

set_option maxHeartbeats 1000000 in
theorem refMeets_yes (x y m n x' y' m' n' : Int) (w : World) (h1 : rightB x y m n = true) (h2 : rightB x' y' m' n' = true) :
    Calls Try.prog 11 #[.agg #[.int .i64 x, .int .i64 y, .int .i64 m, .int .i64 n], .agg #[.int .i64 x', .int .i64 y', .int .i64 m', .int .i64 n']] w fun e w' => e = .returned (.bool (ovB x (x + m) x' (x' + m') && ovB y (y + n) y' (y' + n'))) ∧ Below w.heap.size w w' := by
  obtain ⟨⟨a1, a2, a3, a4⟩, a5, a6, a7, a8⟩ := of_rightB h1
  obtain ⟨⟨b1, b2, b3, b4⟩, b5, b6, b7, b8⟩ := of_rightB h2
  go_enter Try.func11, Try.ntmps11
  go_wp2_with fail
  refine (refRight_any _ _ _ _ _).mono ?_
  rintro e w1 ⟨rfl, hbw1⟩
  obtain ⟨hcw1, hfw1⟩ := bcell hbw1
  have hsw1 := hbw1.size
  try simp at hcw1 hfw1 hsw1
  have lw1_0 : w.heap.size < w1.heap.size := by omega
  have lw1_1 : w.heap.size + 1 < w1.heap.size := by omega
  go_wp2_with fail
  refine (refRight_any _ _ _ _ _).mono ?_
  rintro e w2 ⟨rfl, hbw2⟩
  obtain ⟨hcw2, hfw2⟩ := bcell hbw2
  have hsw2 := hbw2.size
  try simp at hcw2 hfw2 hsw2
  have lw2_0 : w.heap.size < w2.heap.size := by omega
  have lw2_1 : w.heap.size + 1 < w2.heap.size := by omega
  go_wp2
  go_loop [5, 6] (fun s5 s6 => ∃ i : Int, x ≤ i ∧ i ≤ x + m ∧ s6 = .int .i64 i ∧ s5 = .bool (ovB x i x' (x' + m'))) (fun _ s6 => (x + m - intOf s6).toNat)
  case atStart => exact ⟨x, by omega, by omega, rfl, by rw [ov_start]⟩
  case round =>
    obtain ⟨i, hi1, hi2, rfl, rfl⟩ := hrel
    by_cases hlt : i < x + m
    · by_cases hb : x' ≤ i ∧ i < x' + m'
      · obtain ⟨hb1, hb2⟩ := hb
        go_wp2
        go_round
        case rel => exact ⟨i + 1, by omega, by omega, rfl, by rw [ov_hit hi1 hb1 hb2]⟩
        case measure => simp [intOf]; omega
      · have HM := hid (ov_miss (lo := x) hi1 hb (by omega))
        by_cases hb1 : x' ≤ i
        · have hb2 : ¬ i < x' + m' := fun h => hb ⟨hb1, h⟩
          clear hb
          go_wp2
          go_round
          case rel => exact ⟨i + 1, by omega, by omega, rfl, by rw [HM.out]⟩
          case measure => simp [intOf]; omega
        · clear hb
          go_wp2
          go_round
          case rel => exact ⟨i + 1, by omega, by omega, rfl, by rw [HM.out]⟩
          case measure => simp [intOf]; omega
    · obtain rfl : i = x + m := by omega
      clear hlt hi1 hi2
      go_wp2
      go_loop [7, 8] (fun s5 s6 => ∃ i : Int, y ≤ i ∧ i ≤ y + n ∧ s6 = .int .i64 i ∧ s5 = .bool (ovB y i y' (y' + n'))) (fun _ s6 => (y + n - intOf s6).toNat)
      case atStart => exact ⟨y, by omega, by omega, rfl, by rw [ov_start]⟩
      case round =>
        obtain ⟨i, hi1, hi2, rfl, rfl⟩ := hrel
        by_cases hlt : i < y + n
        · by_cases hb : y' ≤ i ∧ i < y' + n'
          · obtain ⟨hb1, hb2⟩ := hb
            go_wp2
            go_round
            case rel => exact ⟨i + 1, by omega, by omega, rfl, by rw [ov_hit hi1 hb1 hb2]⟩
            case measure => simp [intOf]; omega
          · have HM := hid (ov_miss (lo := y) hi1 hb (by omega))
            by_cases hb1 : y' ≤ i
            · have hb2 : ¬ i < y' + n' := fun h => hb ⟨hb1, h⟩
              clear hb
              go_wp2
              go_round
              case rel => exact ⟨i + 1, by omega, by omega, rfl, by rw [HM.out]⟩
              case measure => simp [intOf]; omega
            · clear hb
              go_wp2
              go_round
              case rel => exact ⟨i + 1, by omega, by omega, rfl, by rw [HM.out]⟩
              case measure => simp [intOf]; omega
        · obtain rfl : i = y + n := by omega
          clear hlt hi1 hi2
          go_wp2
          all_goals go_ret
          all_goals refine ⟨ret_bool (by simp [*]), ?_⟩
          repeat' (first | with_reducible assumption | with_reducible refine Below.setCell ?_ ?_ _ | with_reducible refine below_drewN ?_ _ | with_reducible refine Below.drew ?_ | with_reducible refine balloc ?_ _ | with_reducible exact Below.refl _ _ | with_reducible refine bstep ?_ (by assumption) | with_reducible refine Below.alloc ?_ ?_ _ | with_reducible refine bthrough ?_ (by assumption) ?_)
          all_goals (first | omega | (simp; done) | (simp; omega))

set_option maxHeartbeats 400000 in
theorem refMeets_no1 (x y m n x' y' m' n' : Int) (w : World) (h1 : rightB x y m n = false) :
    Calls Try.prog 11 #[.agg #[.int .i64 x, .int .i64 y, .int .i64 m, .int .i64 n], .agg #[.int .i64 x', .int .i64 y', .int .i64 m', .int .i64 n']] w fun e w' => e = .returned (.bool false) ∧ Below w.heap.size w w' := by
  go_enter Try.func11, Try.ntmps11
  go_wp2_with fail
  refine (refRight_any _ _ _ _ _).mono ?_
  rintro e w1 ⟨rfl, hbw1⟩
  obtain ⟨hcw1, hfw1⟩ := bcell hbw1
  have hsw1 := hbw1.size
  try simp at hcw1 hfw1 hsw1
  have lw1_0 : w.heap.size < w1.heap.size := by omega
  have lw1_1 : w.heap.size + 1 < w1.heap.size := by omega
  go_wp2
  go_ret
  refine ⟨rfl, ?_⟩
  repeat' (first | with_reducible assumption | with_reducible refine Below.setCell ?_ ?_ _ | with_reducible refine below_drewN ?_ _ | with_reducible refine Below.drew ?_ | with_reducible refine balloc ?_ _ | with_reducible exact Below.refl _ _ | with_reducible refine bstep ?_ (by assumption) | with_reducible refine Below.alloc ?_ ?_ _ | with_reducible refine bthrough ?_ (by assumption) ?_)
  all_goals (first | omega | (simp; done) | (simp; omega))
set_option maxHeartbeats 400000 in
theorem refMeets_no2 (x y m n x' y' m' n' : Int) (w : World) (h1 : rightB x y m n = true) (h2 : rightB x' y' m' n' = false) :
    Calls Try.prog 11 #[.agg #[.int .i64 x, .int .i64 y, .int .i64 m, .int .i64 n], .agg #[.int .i64 x', .int .i64 y', .int .i64 m', .int .i64 n']] w fun e w' => e = .returned (.bool false) ∧ Below w.heap.size w w' := by
  go_enter Try.func11, Try.ntmps11
  go_wp2_with fail
  refine (refRight_any _ _ _ _ _).mono ?_
  rintro e w1 ⟨rfl, hbw1⟩
  obtain ⟨hcw1, hfw1⟩ := bcell hbw1
  have hsw1 := hbw1.size
  try simp at hcw1 hfw1 hsw1
  have lw1_0 : w.heap.size < w1.heap.size := by omega
  have lw1_1 : w.heap.size + 1 < w1.heap.size := by omega
  go_wp2_with fail
  refine (refRight_any _ _ _ _ _).mono ?_
  rintro e w2 ⟨rfl, hbw2⟩
  obtain ⟨hcw2, hfw2⟩ := bcell hbw2
  have hsw2 := hbw2.size
  try simp at hcw2 hfw2 hsw2
  have lw2_0 : w.heap.size < w2.heap.size := by omega
  have lw2_1 : w.heap.size + 1 < w2.heap.size := by omega
  go_wp2
  go_ret
  refine ⟨rfl, ?_⟩
  repeat' (first | with_reducible assumption | with_reducible refine Below.setCell ?_ ?_ _ | with_reducible refine below_drewN ?_ _ | with_reducible refine Below.drew ?_ | with_reducible refine balloc ?_ _ | with_reducible exact Below.refl _ _ | with_reducible refine bstep ?_ (by assumption) | with_reducible refine Below.alloc ?_ ?_ _ | with_reducible refine bthrough ?_ (by assumption) ?_)
  all_goals (first | omega | (simp; done) | (simp; omega))

theorem refMeets_any (x y m n x' y' m' n' : Int) (w : World) :
    Calls Try.prog 11 #[.agg #[.int .i64 x, .int .i64 y, .int .i64 m, .int .i64 n], .agg #[.int .i64 x', .int .i64 y', .int .i64 m', .int .i64 n']] w fun e w' => e = .returned (.bool (meetB x y m n x' y' m' n')) ∧ Below w.heap.size w w' := by
  cases h1 : rightB x y m n
  · simp only [meetB, h1, Bool.false_and]
    exact refMeets_no1 x y m n x' y' m' n' w h1
  · cases h2 : rightB x' y' m' n'
    · simp only [meetB, h1, h2, Bool.false_and, Bool.and_false]
      exact refMeets_no2 x y m n x' y' m' n' w h1 h2
    · simp only [meetB, h1, h2, Bool.true_and]
      exact refMeets_yes x y m n x' y' m' n' w h1 h2

end Go.Proofs.Ytipfngliahhhiaa

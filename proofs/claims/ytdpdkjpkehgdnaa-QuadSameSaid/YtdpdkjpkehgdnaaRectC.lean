/-
  Package rect: In, Holds, Area, Quarters, for every input.
-/
import Derived.Test.YtdpdkjpkehgdnaaRectB2
namespace Go.Proofs.Ytdpdkjpkehgdnaa
open Go.RowKit

def inB (x y m n x' y' m' n' : Int) : Bool := rightB x y m n && rightB x' y' m' n' && decide (x' ≤ x) && decide (y' ≤ y) && decide (x + m ≤ x' + m') && decide (y + n ≤ y' + n')

theorem inB_of_meet {x y m n x' y' m' n' : Int} (h : meetB x y m n x' y' m' n' = true) (hx : max x x' = x) (hy : max y y' = y) (hm : min (x + m) (x' + m') - max x x' = m) (hn : min (y + n) (y' + n') - max y y' = n) : inB x y m n x' y' m' n' = true := by
  obtain ⟨h1, h2, h3, h4⟩ := of_meetB h
  simp [inB, h1, h2]
  omega
theorem inB_not {x y m n x' y' m' n' : Int} (h : ¬ (max x x' = x ∧ max y y' = y ∧ min (x + m) (x' + m') - max x x' = m ∧ min (y + n) (y' + n') - max y y' = n)) : inB x y m n x' y' m' n' = false := by
  cases h1 : inB x y m n x' y' m' n'
  · rfl
  · exfalso
    apply h
    simp only [inB, Bool.and_eq_true, decide_eq_true_eq] at h1
    omega
theorem inB_none {x y m n x' y' m' n' : Int} (h : meetB x y m n x' y' m' n' = false) : inB x y m n x' y' m' n' = false := by
  cases h1 : inB x y m n x' y' m' n'
  · rfl
  · exfalso
    simp only [inB, Bool.and_eq_true, decide_eq_true_eq] at h1
    obtain ⟨⟨a1, a2, a3, a4⟩, a5, a6, a7, a8⟩ := of_rightB h1.1.1.1.1.1
    obtain ⟨⟨b1, b2, b3, b4⟩, b5, b6, b7, b8⟩ := of_rightB h1.1.1.1.1.2
    simp [meetB, h1] at h
    omega

set_option maxHeartbeats 800000 in
theorem in_any (x y m n x' y' m' n' : Int) (w : World) :
    Calls Try.prog 41 #[.agg #[.int .i64 x, .int .i64 y, .int .i64 m, .int .i64 n], .agg #[.int .i64 x', .int .i64 y', .int .i64 m', .int .i64 n']] w fun e w' =>
      e = .returned (.bool (inB x y m n x' y' m' n')) ∧ Below w.heap.size w w' := by
  cases h : meetB x y m n x' y' m' n'
  ·
    go_enter Try.func41, Try.ntmps41
    go_wp2_with fail
    refine (common_none _ _ _ _ _ _ _ _ _ h).mono ?_
    rintro e w1 ⟨rfl, hbw1⟩
    obtain ⟨hcw1, hfw1⟩ := bcell hbw1
    have hsw1 := hbw1.size
    try simp at hcw1 hfw1 hsw1
    have lw1_0 : w.heap.size < w1.heap.size := by omega
    have lw1_1 : w.heap.size + 1 < w1.heap.size := by omega
    go_wp2
    go_ret
    refine ⟨ret_bool (inB_none h).symm, ?_⟩
    repeat' (first | with_reducible assumption | with_reducible refine Below.setCell ?_ ?_ _ | with_reducible refine below_drewN ?_ _ | with_reducible refine Below.drew ?_ | with_reducible refine balloc ?_ _ | with_reducible exact Below.refl _ _ | with_reducible refine bstep ?_ (by assumption) | with_reducible refine Below.alloc ?_ ?_ _ | with_reducible refine bthrough ?_ (by assumption) ?_)
    all_goals (first | omega | (simp; done) | (simp; omega))
  ·
    go_enter Try.func41, Try.ntmps41
    go_wp2_with fail
    refine (common_has _ _ _ _ _ _ _ _ _ h).mono ?_
    rintro e w1 ⟨rfl, hbw1⟩
    obtain ⟨hcw1, hfw1⟩ := bcell hbw1
    have hsw1 := hbw1.size
    try simp at hcw1 hfw1 hsw1
    have lw1_0 : w.heap.size < w1.heap.size := by omega
    have lw1_1 : w.heap.size + 1 < w1.heap.size := by omega
    go_wp2
    all_goals go_ret
    all_goals refine ⟨ret_bool (by first | exact (inB_of_meet h (by omega) (by omega) (by omega) (by omega)).symm | exact (inB_not (by omega)).symm), ?_⟩
    repeat' (first | with_reducible assumption | with_reducible refine Below.setCell ?_ ?_ _ | with_reducible refine below_drewN ?_ _ | with_reducible refine Below.drew ?_ | with_reducible refine balloc ?_ _ | with_reducible exact Below.refl _ _ | with_reducible refine bstep ?_ (by assumption) | with_reducible refine Below.alloc ?_ ?_ _ | with_reducible refine bthrough ?_ (by assumption) ?_)
    all_goals (first | omega | (simp; done) | (simp; omega))

def areaV (x y m n : Int) : Int := if rightB x y m n = true then m * n else 0
theorem areaV_bd (x y m n : Int) : 0 ≤ areaV x y m n ∧ areaV x y m n ≤ 65536 := by
  unfold areaV
  split
  · rename_i h
    obtain ⟨⟨a1, a2, a3, a4⟩, a5, a6, a7, a8⟩ := of_rightB h
    have p1 : 0 ≤ m * n := Int.mul_nonneg (by omega) (by omega)
    have p2 : m * n ≤ 256 * 256 := Int.mul_le_mul (by omega) (by omega) (by omega) (by omega)
    omega
  · omega

set_option maxHeartbeats 400000 in
theorem area_any (x y m n : Int) (w : World) :
    Calls Try.prog 32 #[.agg #[.int .i64 x, .int .i64 y, .int .i64 m, .int .i64 n]] w fun e w' =>
      e = .returned (.int .i64 (areaV x y m n)) ∧ Below w.heap.size w w' := by
  cases h : rightB x y m n
  ·
    go_enter Try.func32, Try.ntmps32
    go_wp2_with fail
    refine (right_any _ _ _ _ _).mono ?_
    rintro e w1 ⟨rfl, hbw1⟩
    obtain ⟨hcw1, hfw1⟩ := bcell hbw1
    have hsw1 := hbw1.size
    try simp at hcw1 hfw1 hsw1
    have lw1_0 : w.heap.size < w1.heap.size := by omega
    go_wp2
    go_ret
    refine ⟨ret_int (by simp [areaV, h]), ?_⟩
    repeat' (first | with_reducible assumption | with_reducible refine Below.setCell ?_ ?_ _ | with_reducible refine below_drewN ?_ _ | with_reducible refine Below.drew ?_ | with_reducible refine balloc ?_ _ | with_reducible exact Below.refl _ _ | with_reducible refine bstep ?_ (by assumption) | with_reducible refine Below.alloc ?_ ?_ _ | with_reducible refine bthrough ?_ (by assumption) ?_)
    all_goals (first | omega | (simp; done) | (simp; omega))
  · obtain ⟨⟨a1, a2, a3, a4⟩, a5, a6, a7, a8⟩ := of_rightB h
    have p1 : 0 ≤ m * n := Int.mul_nonneg (by omega) (by omega)
    have p2 : m * n ≤ 256 * 256 := Int.mul_le_mul (by omega) (by omega) (by omega) (by omega)
    go_enter Try.func32, Try.ntmps32
    go_wp2_with fail
    refine (right_any _ _ _ _ _).mono ?_
    rintro e w1 ⟨rfl, hbw1⟩
    obtain ⟨hcw1, hfw1⟩ := bcell hbw1
    have hsw1 := hbw1.size
    try simp at hcw1 hfw1 hsw1
    have lw1_0 : w.heap.size < w1.heap.size := by omega
    go_wp2
    go_ret
    refine ⟨ret_int (by simp [areaV, h]), ?_⟩
    repeat' (first | with_reducible assumption | with_reducible refine Below.setCell ?_ ?_ _ | with_reducible refine below_drewN ?_ _ | with_reducible refine Below.drew ?_ | with_reducible refine balloc ?_ _ | with_reducible exact Below.refl _ _ | with_reducible refine bstep ?_ (by assumption) | with_reducible refine Below.alloc ?_ ?_ _ | with_reducible refine bthrough ?_ (by assumption) ?_)
    all_goals (first | omega | (simp; done) | (simp; omega))

def holdsB (x y m n i k : Int) : Bool := rightB x y m n && decide (x ≤ i) && decide (i < x + m) && decide (y ≤ k) && decide (k < y + n)



end Go.Proofs.Ytdpdkjpkehgdnaa

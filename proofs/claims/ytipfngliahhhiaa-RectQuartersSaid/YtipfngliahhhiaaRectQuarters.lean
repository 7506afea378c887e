/-
  The walk of the statement RectQuarters: it returns true, for every rectangle.
-/
import Derived.Test.YtipfngliahhhiaaRectAwake2
import Derived.Test.YtipfngliahhhiaaRectQ
import Derived.Test.YtipfngliahhhiaaRectF
import Derived.Test.YtipfngliahhhiaaRectEq
namespace Go.Proofs.Ytipfngliahhhiaa
open Go.RowKit

set_option maxHeartbeats 1000000 in
theorem lawQuarters_no1 (x y m n : Int) (w : World) (h1 : rightB x y m n = false) :
    Calls Try.prog 3 #[.agg #[.int .i64 x, .int .i64 y, .int .i64 m, .int .i64 n]] w fun e w' => e = .returned (.bool true) ∧ Below w.heap.size w w' := by
  have heq := eq16 0 0 0 0 0 0 0 0 0 0 0 0 0 0 0 0
  have HQ := hid (show rightB x y m n = false ∨ ¬ m % 2 = 0 ∨ ¬ n % 2 = 0 from .inl h1)
  go_enter Try.func3, Try.ntmps3
  go_wp2_with fail
  refine (quarters_no _ _ _ _ _ HQ.out).mono ?_
  rintro e w1 ⟨rfl, hbw1⟩
  obtain ⟨hcw1, hfw1⟩ := bcell hbw1
  have hsw1 := hbw1.size
  try simp at hcw1 hfw1 hsw1
  have lw1_0 : w.heap.size < w1.heap.size := by omega
  go_wp2_with fail
  refine (ref_any _ _ _ _ _).mono ?_
  rintro e w2 ⟨rfl, hbw2⟩
  obtain ⟨hcw2, hfw2⟩ := bcell hbw2
  have hsw2 := hbw2.size
  try simp at hcw2 hfw2 hsw2
  have lw2_0 : w.heap.size < w2.heap.size := by omega
  have lw2_1 : w1.heap.size < w2.heap.size := by omega
  go_wp2_with fail
  refine (refRight_any _ _ _ _ _).mono ?_
  rintro e w3 ⟨rfl, hbw3⟩
  obtain ⟨hcw3, hfw3⟩ := bcell hbw3
  have hsw3 := hbw3.size
  try simp at hcw3 hfw3 hsw3
  have lw3_0 : w.heap.size < w3.heap.size := by omega
  have lw3_1 : w1.heap.size < w3.heap.size := by omega
  go_wp2_with fail
  refine (awake_any _).mono ?_
  rintro e w4 ⟨rfl, hbw4⟩
  obtain ⟨hcw4, hfw4⟩ := bcell hbw4
  have hsw4 := hbw4.size
  try simp at hcw4 hfw4 hsw4
  have lw4_0 : w.heap.size < w4.heap.size := by omega
  have lw4_1 : w1.heap.size < w4.heap.size := by omega
  go_wp2
  go_ret
  refine ⟨rfl, ?_⟩
  repeat' (first | with_reducible refine Below.setCell ?_ ?_ _ | with_reducible refine below_drewN ?_ _ | with_reducible refine Below.drew ?_ | with_reducible refine balloc ?_ _ | with_reducible exact Below.refl _ _ | with_reducible refine bstep ?_ (by assumption) | with_reducible refine Below.alloc ?_ ?_ _ | with_reducible refine bthrough ?_ (by assumption) ?_)
  all_goals (first | omega | (simp; done) | (simp; omega))

set_option maxHeartbeats 1000000 in
theorem lawQuarters_no2 (x y m n : Int) (w : World) (h1 : rightB x y m n = true) (h2 : m % 2 = 0) (h3 : ¬ n % 2 = 0) :
    Calls Try.prog 3 #[.agg #[.int .i64 x, .int .i64 y, .int .i64 m, .int .i64 n]] w fun e w' => e = .returned (.bool true) ∧ Below w.heap.size w w' := by
  obtain ⟨⟨a1, a2, a3, a4⟩, a5, a6, a7, a8⟩ := of_rightB h1
  have heq := eq16 0 0 0 0 0 0 0 0 0 0 0 0 0 0 0 0
  have HQ := hid (show rightB x y m n = false ∨ ¬ m % 2 = 0 ∨ ¬ n % 2 = 0 from .inr (.inr h3))
  go_enter Try.func3, Try.ntmps3
  go_wp2_with fail
  refine (quarters_no _ _ _ _ _ HQ.out).mono ?_
  rintro e w1 ⟨rfl, hbw1⟩
  obtain ⟨hcw1, hfw1⟩ := bcell hbw1
  have hsw1 := hbw1.size
  try simp at hcw1 hfw1 hsw1
  have lw1_0 : w.heap.size < w1.heap.size := by omega
  go_wp2_with fail
  refine (ref_any _ _ _ _ _).mono ?_
  rintro e w2 ⟨rfl, hbw2⟩
  obtain ⟨hcw2, hfw2⟩ := bcell hbw2
  have hsw2 := hbw2.size
  try simp at hcw2 hfw2 hsw2
  have lw2_0 : w.heap.size < w2.heap.size := by omega
  have lw2_1 : w1.heap.size < w2.heap.size := by omega
  go_wp2_with fail
  refine (refRight_any _ _ _ _ _).mono ?_
  rintro e w3 ⟨rfl, hbw3⟩
  obtain ⟨hcw3, hfw3⟩ := bcell hbw3
  have hsw3 := hbw3.size
  try simp at hcw3 hfw3 hsw3
  have lw3_0 : w.heap.size < w3.heap.size := by omega
  have lw3_1 : w1.heap.size < w3.heap.size := by omega
  go_wp2_with fail
  refine (awake_any _).mono ?_
  rintro e w4 ⟨rfl, hbw4⟩
  obtain ⟨hcw4, hfw4⟩ := bcell hbw4
  have hsw4 := hbw4.size
  try simp at hcw4 hfw4 hsw4
  have lw4_0 : w.heap.size < w4.heap.size := by omega
  have lw4_1 : w1.heap.size < w4.heap.size := by omega
  go_wp2
  go_ret
  refine ⟨rfl, ?_⟩
  repeat' (first | with_reducible refine Below.setCell ?_ ?_ _ | with_reducible refine below_drewN ?_ _ | with_reducible refine Below.drew ?_ | with_reducible refine balloc ?_ _ | with_reducible exact Below.refl _ _ | with_reducible refine bstep ?_ (by assumption) | with_reducible refine Below.alloc ?_ ?_ _ | with_reducible refine bthrough ?_ (by assumption) ?_)
  all_goals (first | omega | (simp; done) | (simp; omega))

set_option maxHeartbeats 1000000 in
theorem lawQuarters_no3 (x y m n : Int) (w : World) (h1 : rightB x y m n = true) (h2 : ¬ m % 2 = 0) :
    Calls Try.prog 3 #[.agg #[.int .i64 x, .int .i64 y, .int .i64 m, .int .i64 n]] w fun e w' => e = .returned (.bool true) ∧ Below w.heap.size w w' := by
  obtain ⟨⟨a1, a2, a3, a4⟩, a5, a6, a7, a8⟩ := of_rightB h1
  have heq := eq16 0 0 0 0 0 0 0 0 0 0 0 0 0 0 0 0
  have HQ := hid (show rightB x y m n = false ∨ ¬ m % 2 = 0 ∨ ¬ n % 2 = 0 from .inr (.inl h2))
  go_enter Try.func3, Try.ntmps3
  go_wp2_with fail
  refine (quarters_no _ _ _ _ _ HQ.out).mono ?_
  rintro e w1 ⟨rfl, hbw1⟩
  obtain ⟨hcw1, hfw1⟩ := bcell hbw1
  have hsw1 := hbw1.size
  try simp at hcw1 hfw1 hsw1
  have lw1_0 : w.heap.size < w1.heap.size := by omega
  go_wp2_with fail
  refine (ref_any _ _ _ _ _).mono ?_
  rintro e w2 ⟨rfl, hbw2⟩
  obtain ⟨hcw2, hfw2⟩ := bcell hbw2
  have hsw2 := hbw2.size
  try simp at hcw2 hfw2 hsw2
  have lw2_0 : w.heap.size < w2.heap.size := by omega
  have lw2_1 : w1.heap.size < w2.heap.size := by omega
  go_wp2_with fail
  refine (refRight_any _ _ _ _ _).mono ?_
  rintro e w3 ⟨rfl, hbw3⟩
  obtain ⟨hcw3, hfw3⟩ := bcell hbw3
  have hsw3 := hbw3.size
  try simp at hcw3 hfw3 hsw3
  have lw3_0 : w.heap.size < w3.heap.size := by omega
  have lw3_1 : w1.heap.size < w3.heap.size := by omega
  go_wp2_with fail
  refine (awake_any _).mono ?_
  rintro e w4 ⟨rfl, hbw4⟩
  obtain ⟨hcw4, hfw4⟩ := bcell hbw4
  have hsw4 := hbw4.size
  try simp at hcw4 hfw4 hsw4
  have lw4_0 : w.heap.size < w4.heap.size := by omega
  have lw4_1 : w1.heap.size < w4.heap.size := by omega
  go_wp2
  go_ret
  refine ⟨rfl, ?_⟩
  repeat' (first | with_reducible refine Below.setCell ?_ ?_ _ | with_reducible refine below_drewN ?_ _ | with_reducible refine Below.drew ?_ | with_reducible refine balloc ?_ _ | with_reducible exact Below.refl _ _ | with_reducible refine bstep ?_ (by assumption) | with_reducible refine Below.alloc ?_ ?_ _ | with_reducible refine bthrough ?_ (by assumption) ?_)
  all_goals (first | omega | (simp; done) | (simp; omega))

end Go.Proofs.Ytipfngliahhhiaa
